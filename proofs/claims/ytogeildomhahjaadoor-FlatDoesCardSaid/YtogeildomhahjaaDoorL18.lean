/-
  What awake, FlatSteps and FlatApart of layer 18 come to.
-/
import Derived.Test.YtogeildomhahjaaDoorWL18
import Derived.Test.YtogeildomhahjaaDoorFlat
import Derived.Test.YtogeildomhahjaaDoorSame3
namespace Go.Proofs.YtogeildomhahjaaDoor.L18
open Go.Pl Go.Proofs.YtogeildomhahjaaDoor.W Go.Proofs.YtogeildomhahjaaDoor.As Go.Proofs.YtogeildomhahjaaDoor.Flat
theorem size5 : sizeN Tryd.prog 5 = 1 := by kernel_rfl
theorem zero5 : zeroC Tryd.prog 5 = #[.int .u8 0] := by kernel_rfl
theorem bytes5 : bytesN Tryd.prog 5 = 1 := by kernel_rfl
def z1024 : List Int := List.replicate 1024 0
/-- The bytes that awake writes. -/
def awB : List Int := 5 :: List.replicate 15 0 ++ 6 :: List.replicate 15 0
theorem rep32 : ((Array.replicate 32 (Value.int .u8 0)).setIfInBounds 0 (.int .u8 5)).setIfInBounds 16 (.int .u8 6) = (awB.map (Value.int .u8)).toArray := by kernel_rfl
theorem awX2 : bytesOf (wrL 3 z1024 1 awB) 2 1 = 6 :: List.replicate 15 0 := by decide +kernel
theorem awX3 : bytesOf (trL 3 (wrL 3 z1024 1 awB) 2 1) 2 1 = List.replicate 16 0 := by decide +kernel
theorem ix0 {h : Heap} {a : Option Addr} {x : Int} {xs : List Int} (r : Ar .u8 h a (x :: xs)) {n : Nat} (hn : 0 < n) {F : Int → Prop} (hF : F x) :
    ptrW a (fun p => idxW (0 : Int) n true (ldW (.int .u8) (Addr.add p (Int.toNat (0 : Int) * 1)) F h)) := ix_ld (i := 0) r (by simp) hn hF
theorem awake_ok (h : Heap) (hg : Laid h) : CallsH Tryd.prog 22 [] h fun v h' => v = .bool true ∧ New h h' := by
  refine fun_ok hm' Tryd.func22 (by kernel_rfl) (F22_eq _ h) ?_
  unfold F22
  refine call_of (new_ok 3 h (by omega)) ?_
  rintro v h1 ⟨rfl, m1, n1⟩
  have hbl := m1.blk.lt
  generalize hB : h.size = B at *
  refine ⟨(some ⟨B, 0, none⟩, errV 0), rfl, cut_of (br_f rfl ⟨errV_if 0, br_f rfl fun _ => ?_⟩)⟩
  refine mk_of (n := 32) size5 zero5 (by rw [bytes5]; omega) (by omega) fun h2 b2 n2 s2 => ptr_of ⟨⟨by omega, rfl⟩, ?_⟩
  refine st_blk (o := 0) b2 (by simp) fun h3 b3 o3 => ptr_of ⟨⟨by omega, rfl⟩, st_blk (o := 16) b3 (by simp) fun h4 b4 o4 => ?_⟩
  rw [rep32] at b4
  have n14 : New h1 h4 := (o3.upd.trans o4.upd).new n2 (Nat.le_refl _)
  have ar4 : Ar .u8 h4 (some ⟨h1.size, 0, none⟩) awB := Ar.blk b4
  have hne : blkOf (some (⟨h1.size, 0, none⟩ : Addr)) ≠ some B := fun e => by injection e with e; change h1.size = B at e; omega
  have m4 := m1.new n14
  refine call_of (write_ok B 3 z1024 1 _ 32 awB h4 m4 ar4 (fun _ => hne) (by decide) (by omega)) ?_
  rintro v h5 ⟨rfl, m5, u5⟩
  refine ⟨errV (writeE 3 1 awB.length), rfl, call_of (readA B 3 _ 2 1 h5 m5 (by omega)) ?_⟩
  rintro v h6 ⟨a6, c6, rfl, r6, n6⟩
  rw [awX2] at r6 ⊢
  refine ⟨((a6, 16, c6), errV 0), rfl, call_of (read_no B 3 _ 2 2 h6 (m5.new n6) (by decide)) ?_⟩
  rintro v h' ⟨rfl, hh⟩; subst h'
  refine ⟨((none, 0, 0), errV 1), rfl, call_of (copy_ok B 3 _ h6 (m5.new n6)) ?_⟩
  rintro v h7 ⟨rfl, k7, n7⟩
  have hB6 : B < h6.size := by have := n14.size; have := u5.size; have := n6.size; omega
  refine ⟨some ⟨h6.size, 0, none⟩, rfl, br_f rfl (call_of (trim_ok B 3 _ 2 1 h7 ((m5.new n6).new n7)) ?_)⟩
  rintro v h8 ⟨rfl, m8, u8⟩
  have k8 := k7.upd u8 (by omega)
  have r8 := (r6.new n7).upd u8 (by have := n14.size; have := u5.size; omega)
  have ar8 := ((ar4.upd u5 hne).new (n6.trans n7)).upd u8 hne
  refine ⟨errV (isE 3 2 1), rfl, call_of (readA B 3 _ 2 1 h8 m8 (by omega)) ?_⟩
  rintro v h9 ⟨a9, c9, rfl, r9, n9⟩
  rw [awX3] at r9 ⊢
  refine ⟨((a9, 16, c9), errV 0), rfl, call_of (readA h6.size 3 _ 2 1 h9 (k8.new n9) (by omega)) ?_⟩
  rintro v h10 ⟨a10, c10, rfl, r10, n10⟩
  rw [awX2] at r10 ⊢
  have n810 := n9.trans n10
  have n08 : New h h8 := by
    refine ⟨by have := n1.size; have := n14.size; have := u5.size; have := n6.size; have := n7.size; have := u8.size; omega, fun k hk => ?_⟩
    have h1s := n1.size; have h2s := n14.size; have h3s := u5.size; have h4s := n6.size; have h5s := n7.size
    rw [u8.same k (by omega) (by omega), n7.same k (by omega), n6.same k (by omega), u5.same k (by omega) (by omega), n14.same k (by omega), n1.same k hk]
  refine ⟨((a10, 16, c10), errV 0), rfl, errV_if _, br_t rfl ⟨errV_if 0, br_t rfl (br_t rfl (ix0 ((r8.new n810).ar) (show 0 < 16 by omega) (br_t rfl (call_of (code_err 1 h10 (hg.new (n08.trans n810))) ?_))))⟩⟩
  rintro v h11 ⟨rfl, n11⟩
  have n811 := n810.trans n11
  refine ⟨(1 : Int), rfl, br_t rfl ⟨errV_if _, br_t rfl ⟨errV_if 0, br_t rfl (br_t rfl (ix0 ((r9.new (n10.trans n11)).ar) (show 0 < 16 by omega) (br_t rfl ⟨errV_if 0, br_t rfl (br_t rfl (ix0 ((r10.new n11).ar) (show 0 < 16 by omega) (br_t rfl ?_)))⟩)))⟩⟩⟩
  refine call_of (blocks_ok B 3 _ h11 (m8.new n811)) ?_
  rintro v h' ⟨rfl, hh⟩; subst h'
  refine ⟨(3 : Int), rfl, br_t rfl (call_of (first_ok B 3 _ 0 _ 32 awB 1 h11 (m8.new n811) (ar8.new n811) (fun _ => hne) (by decide) (by omega) (by decide)) ?_)⟩
  rintro v h12 ⟨k, hk, _, rfl, m12, u12⟩
  have hk1 : k = 1 := by have : firstN 1 (awB.length : Nat) = 1 := by decide +kernel
                         omega
  subst hk1
  refine ⟨(1 : Int), rfl, br_t rfl ⟨⟨by omega, by omega, by omega, by omega⟩, ?_⟩⟩
  have ar12 := ((ar8.new n811).upd u12 hne).drop 1 32 (.inl (by omega))
  have hsb : blkOf (sliceBase (some (⟨h1.size, 0, none⟩ : Addr)) (1 : Int).toNat ((32 : Nat) : Int).toNat 1) ≠ some B := hne
  refine call_of (write_ok B 3 _ 0 _ 31 (awB.drop 1) h12 m12 ar12 (fun _ => hsb) (by decide) (by omega)) ?_
  rintro v h13 ⟨rfl, m13, u13⟩
  have n013 : New h h13 := by
    have n011 := n08.trans n811
    exact (u12.trans u13).new n011 (by omega)
  refine ⟨errV (writeE 3 0 (awB.drop 1).length), rfl, call_of (code_err (writeE 3 0 (awB.drop 1).length) h13 (hg.new n013)) ?_⟩
  rintro v h14 ⟨rfl, n14'⟩
  exact ⟨writeE 3 0 (awB.drop 1).length, rfl, rfl, n013.trans n14'⟩
theorem int_of {h : Heap} {k : IntKind} {v : Value} {n : Int} (r : ReadsV h (.int k) v n) : v = .int k n ∧ (Lit.int k n).wf = true := by
  obtain ⟨cs, hcs, e1, w⟩ := r
  simp only at hcs; subst hcs; injection e1 with e1; exact ⟨e1, w⟩
theorem z_len : z1024.length = 1024 := List.length_replicate
theorem isE_all {m : Nat} : isB m 0 (m : Int) = true := decide_eq_true (by omega)
theorem bo0 (xs : List Int) (m : Nat) : bytesOf xs 0 m = xs.take (16 * m) := by simp [bytesOf]
theorem steps_law (h : Heap) (v0 v1 v2 v3 v4 : Value) (bl : Int) (was : List Int) (f : Int) (ys : List Int) (st : Int) (r0 : ReadsV h (.int .i64) v0 bl) (r1 : ReadsV h (.slice (.int .u8)) v1 was) (r2 : ReadsV h (.int .i64) v2 f) (r3 : ReadsV h (.slice (.int .u8)) v3 ys) (r4 : ReadsV h (.int .i64) v4 st) (hg : Laid h) :
    CallsH Tryd.prog 6 [v0, v1, v2, v3, v4] h fun v h' => v = .bool true ∧ New h h' := by
  obtain ⟨rfl, _⟩ := int_of r0
  obtain ⟨aw, cw, rfl, hlw, hcw, _, arw, _⟩ := Ar.reads r1
  obtain ⟨rfl, _⟩ := int_of r2
  obtain ⟨ab, cb, rfl, hlb, hcb, _, arb, _⟩ := Ar.reads r3
  obtain ⟨rfl, _⟩ := int_of r4
  have hmx : (maxLen : Nat) ≤ 9223372036854775807 := by simp [maxLen]
  refine fun_ok hm' Tryd.func6 (by kernel_rfl) (F6_eq bl aw was.length cw f ab ys.length cb st _ h) ?_
  unfold F6
  refine call_of (awake_ok h hg) ?_
  rintro v h1 ⟨rfl, n1⟩
  refine ⟨true, rfl, br_f rfl ?_⟩
  by_cases hbl : ¬ (1 ≤ bl ∧ bl ≤ 64)
  · refine call_of (new_no bl h1 hbl) ?_
    rintro v h' ⟨rfl, hh⟩; subst h'
    exact ⟨(none, errV 1), rfl, cut_of (br_t rfl ⟨rfl, n1⟩)⟩
  have hbl : 1 ≤ bl ∧ bl ≤ 64 := Classical.not_not.1 hbl
  obtain ⟨m, rfl⟩ := Int.eq_ofNat_of_zero_le (show 0 ≤ bl by omega)
  have hm : 1 ≤ m ∧ m ≤ 64 := by omega
  refine call_of (new_ok m h1 hm) ?_
  rintro v h2 ⟨rfl, m2, n2⟩
  have n02 := n1.trans n2
  have hB : h.size ≤ h1.size := n1.size
  have hBlt := m2.blk.lt
  generalize h1.size = B at *
  refine ⟨(some ⟨B, 0, none⟩, errV 0), rfl, cut_of (br_f rfl (br_of (fun _ => ⟨rfl, n02⟩) fun hl1 => br_of (fun _ => ⟨rfl, n02⟩) fun hl2 _ => ?_))⟩
  have hl1 : ys.length ≤ 1200 := by simp at hl1; omega
  have hl2 : was.length ≤ 1200 := by simp at hl2; omega
  refine call_of (write_ok B m z1024 0 aw cw was h2 m2 (arw.new n02) ((arw.new (New.refl h)).ne hB) hlw (by omega)) ?_
  rintro v h3 ⟨rfl, m3, u3⟩
  have hX := wrL_len (m := m) (xs := z1024) (f := 0) (ys := was) z_len hm.2
  generalize wrL m z1024 0 was = X at m3 hX
  have n03 : New h h3 := u3.new n02 hB
  refine ⟨_, rfl, call_of (readA B m X 0 m h3 m3 (by omega)) ?_⟩
  rintro v h4 ⟨a4, c4, rfl, r4, n4⟩
  have hbo := bytesOf_len (f := 0) (n := m) hX (by omega)
  refine ⟨((a4, (bytesOf X 0 m).length, c4), errV 0), rfl, call_of (copy_ok B m X h4 (m3.new n4)) ?_⟩
  rintro v h5 ⟨rfl, k5, n5⟩
  refine ⟨some ⟨h4.size, 0, none⟩, rfl, call_of (copy_ok B m X h5 ((m3.new n4).new n5)) ?_⟩
  rintro v h6 ⟨rfl, k6, n6⟩
  refine ⟨some ⟨h5.size, 0, none⟩, rfl, call_of (copy_ok B m X h6 (((m3.new n4).new n5).new n6)) ?_⟩
  rintro v h7 ⟨rfl, k7, n7⟩
  have s3 := u3.size; have s4 := n4.size; have s5 := n5.size; have s6 := n6.size; have s7 := n7.size; have sz3 := n03.size
  have l5 := k5.blk.lt; have l6 := k6.blk.lt; have l7 := k7.blk.lt
  have n57 := n6.trans n7
  have n07 := ((n03.trans n4).trans n5).trans n57
  have k5 := k5.new n57
  have k6 := k6.new n7
  have r47 := (r4.new n5).new n57
  refine ⟨some ⟨h6.size, 0, none⟩, rfl, call_of (write_ok h4.size m X f ab cb ys h7 k5 (arb.new n07) (arb.ne (by omega)) hlb (by omega)) ?_⟩
  rintro v h8 ⟨rfl, k8, u8⟩
  have n08 : New h h8 := u8.new n07 (by omega)
  have s8 := u8.size
  have r48 : ∀ {hh}, Upd h4.size h7 hh → Row h3 hh a4 c4 (bytesOf X 0 m) := fun u => ⟨r47.ar.upd u (fun e => by have := (r4.ge _ e).2; omega), fun g hg' => ⟨(r47.ge g hg').1, Nat.lt_of_lt_of_le (r47.ge g hg').2 u.size⟩, r47.cap⟩
  have row8 := r48 u8
  refine ⟨errV (writeE m f ys.length), rfl, errV_if _, ?_⟩
  rcases writeE_or m f ys.length with hE | hE
  · rw [hE]
    have hw : wrL m X f ys = putL X (16 * f.toNat) ys := by unfold wrL; rw [if_pos hE]
    rw [hw] at k8
    obtain ⟨h16, hf0, hfm⟩ := writeE_spec hE
    obtain ⟨f, rfl⟩ := Int.eq_ofNat_of_zero_le hf0
    have hfit : f + ys.length / 16 ≤ m := by omega
    rw [Int.toNat_natCast] at k8
    have hY := k8.len
    refine br_f rfl (call_of (first_ok h5.size m X f ab cb ys st h8 (k6.upd u8 (by omega)) (arb.new n08) (arb.ne (by omega)) hlb (by omega) (by omega)) ?_)
    rintro v h9 ⟨k, hk, hkl, rfl, k9, u9⟩
    have n09 : New h h9 := u9.new n08 (by omega)
    have s9 := u9.size
    have hkm : (k : Int) ≤ max st 0 := by rw [← hk, firstN, mm2_min, mm2_max]; omega
    refine ⟨(k : Int), rfl, ?_⟩
    refine cut_q (ts := []) (fun _ h' => MAt h' h5.size (putL X (16 * f) ys) m ∧ Upd h5.size h9 h') ?_ ?_
    · rintro _ h10 ⟨k10, u10⟩ _
      have s10 := u10.size
      have u810 := u9.trans u10
      have n010 : New h h10 := u10.new n09 (by omega)
      have q8 := k8.upd u810 (by omega)
      have q7 := (k7.upd u8 (by omega)).upd u810 (by omega)
      have row10 : Row h3 h10 a4 c4 (bytesOf X 0 m) := ⟨row8.ar.upd u810 (fun e => by have := (r4.ge _ e).2; omega), fun g hg' => ⟨(row8.ge g hg').1, Nat.lt_of_lt_of_le (row8.ge g hg').2 u810.size⟩, row8.cap⟩
      have hbp := bytesOf_len (f := 0) (n := m) hY (by omega)
      refine call_of (readA h4.size m _ 0 m h10 q8 (by omega)) ?_
      rintro v h11 ⟨ax, cx, rfl, rx, n11⟩
      refine ⟨((ax, (bytesOf (putL X (16 * f) ys) 0 m).length, cx), errV 0), rfl, call_of (readA h5.size m _ 0 m h11 (k10.new n11) (by omega)) ?_⟩
      rintro v h12 ⟨ay, cy, rfl, ry, n12⟩
      refine ⟨((ay, (bytesOf (putL X (16 * f) ys) 0 m).length, cy), errV 0), rfl, call_of (readA h6.size m _ 0 m h12 ((q7.new n11).new n12) (by omega)) ?_⟩
      rintro v h13 ⟨az, cz, rfl, rz, n13⟩
      have ed : IntKind.wrap .i64 (Int.tdiv ((ys.length : Nat) : Int) 16) = ((ys.length / 16 : Nat) : Int) := by rw [Int.tdiv_eq_ediv_of_nonneg (by omega), wr64 (by omega) (by omega)]; omega
      rw [ed]
      have n1013 := (n11.trans n12).trans n13
      refine ⟨((az, (bytesOf X 0 m).length, cz), errV 0), rfl, call_of (readA h4.size m _ f (ys.length / 16) h13 (q8.new n1013) (by omega)) ?_⟩
      rintro v h14 ⟨aw', cw', rfl, rw', n14⟩
      have n014 := n010.trans (n1013.trans n14)
      have hb1 := bytesOf_put (ys := ys) (f := f) hX h16 (by omega)
      rw [hb1] at rw' ⊢
      have rowb := row10.new (n1013.trans n14)
      have rowx := rx.new ((n12.trans n13).trans n14)
      refine ⟨((aw', ys.length, cw'), errV 0), rfl, ?_⟩
      refine Same3.same_q _ _ _ _ _ _ h14 _ _ rfl rfl (show _ ≤ _ by omega) rowx.ar ((ry.new n13).new n14).ar (br_t (by simp) ?_)
      refine Same3.same_q _ _ _ _ _ _ h14 _ _ rfl rfl (show _ ≤ _ by omega) (rz.new n14).ar rowb.ar (br_t (by simp) ⟨errV_if 0, br_t rfl ?_⟩)
      refine Same3.same_q _ _ _ _ _ _ h14 ys ys rfl rfl (show _ ≤ _ by omega) rw'.ar (arb.new n014) (br_t (by simp) (br_t (by simp [hbp, hbo]) ?_))
      dsimp only
      have cx' := rx.cap; have cb' := r4.cap
      rw [hbp] at cx'; rw [hbo] at cb'
      have w16 : IntKind.wrap .i64 (16 * (f : Int)) = ((16 * f : Nat) : Int) := by rw [wr64 (by omega) (by omega)]; omega
      have w16b : IntKind.wrap .i64 (((16 * f : Nat) : Int) + ((ys.length : Nat) : Int)) = ((16 * f + ys.length : Nat) : Int) := by rw [wr64 (by omega) (by omega)]; omega
      rw [w16, w16b, hbp, hbo]
      refine ⟨⟨by omega, by omega, by omega, by omega⟩, ⟨by omega, by omega, by omega, by omega⟩, ?_⟩
      have t0 : ∀ (a : Option Addr) (c : Nat), sliceBase a (0 : Int).toNat ((c : Nat) : Int).toNat 1 = a := fun a c => by
        unfold sliceBase; split
        · rfl
        · cases a <;> rfl
      rw [t0, t0]
      have e1 : (((16 * f : Nat) : Int)).toNat - (0 : Int).toNat = 16 * f := by omega
      rw [e1]
      refine Same3.same_q _ _ _ _ _ _ h14 ((bytesOf (putL X (16 * f) ys) 0 m).take (16 * f)) ((bytesOf X 0 m).take (16 * f)) (by simp [hbp]; omega) (by simp [hbo]; omega) (show _ ≤ _ by omega) (rowx.ar.take _) (rowb.ar.take _) (br_t (decide_eq_true (bytesOf_ahead hX (by omega) (by omega))) ?_)
      refine ⟨⟨by omega, by omega, by omega, by omega⟩, ⟨by omega, by omega, by omega, by omega⟩, ?_⟩
      have e2 : ((16 * m : Nat) : Int).toNat - (((16 * f + ys.length : Nat) : Int)).toNat = 16 * m - (16 * f + ys.length) := by omega
      simp only [Int.toNat_natCast]
      refine Same3.same_q _ _ _ _ _ _ h14 ((bytesOf (putL X (16 * f) ys) 0 m).drop (16 * f + ys.length)) ((bytesOf X 0 m).drop (16 * f + ys.length)) (by simp [hbp]) (by simp [hbo]) (show _ ≤ _ by omega) (rowx.ar.drop _ _ (by rw [hbp]; omega)) (rowb.ar.drop _ _ (by rw [hbo]; omega)) ?_
      exact ⟨by rw [bytesOf_behind hX (by omega) (by omega)]; simp, n014⟩
    · intro K hK
      refine br_f (by simp) (br_f ?_ (br_f ?_ ?_))
      · rw [Int.tdiv_eq_ediv_of_nonneg (by omega), wr64 (by omega) (by omega)]; simp; omega
      · rw [mm2_max]; simp; omega
      · have w16 : IntKind.wrap .i64 (16 * (k : Int)) = ((16 * k : Nat) : Int) := by rw [wr64 (by omega) (by omega)]; omega
        have wfk : IntKind.wrap .i64 ((f : Int) + (k : Int)) = ((f + k : Nat) : Int) := by rw [wr64 (by omega) (by omega)]; omega
        rw [w16, wfk]
        refine ⟨⟨by omega, by omega, by omega, by omega⟩, ?_⟩
        simp only [Int.toNat_natCast]
        have hld : ys.length - 16 * k = (ys.drop (16 * k)).length := by simp
        rw [hld]
        have ard := (arb.new n09).drop (16 * k) cb (by omega)
        have hEd : writeE m ((f + k : Nat) : Int) (ys.drop (16 * k)).length = 0 := writeE_of ⟨by simp; omega, by omega, by simp; omega⟩
        refine call_of (write_ok h5.size m _ ((f + k : Nat) : Int) _ _ (ys.drop (16 * k)) h9 k9 ard (fun hne => ?_) (by simp; omega) (by omega)) ?_
        · intro e
          have hys : ys ≠ [] := fun e0 => by subst e0; simp at hne
          obtain ⟨g, hg⟩ : ∃ g, ab = some g := by
            cases ab with
            | none => unfold sliceBase at e; split at e <;> cases e
            | some g => exact ⟨g, rfl⟩
          subst hg
          have := arb.lt hys g.block rfl
          have e' : g.block = h5.size := by
            unfold sliceBase at e; split at e
            · injection e with e
            · injection e with e; change (g.add _).block = _ at e; rwa [add_block] at e
          omega
        rintro v h10 ⟨rfl, k10, u10⟩
        refine ⟨errV (writeE m ((f + k : Nat) : Int) (ys.drop (16 * k)).length), rfl, errV_if _, ?_⟩
        rw [hEd]
        refine br_f rfl (hK () h10 ⟨?_, u10⟩)
        unfold wrL at k10
        rw [if_pos hEd, Int.toNat_natCast] at k10
        have htl : (ys.take (16 * k)).length = 16 * k := by simp; omega
        have := putL_more (xs := X) (ys := ys.take (16 * k)) (zs := ys.drop (16 * k)) (o := 16 * f) (by simp; omega)
        rw [htl, List.take_append_drop, show 16 * f + 16 * k = 16 * (f + k) by omega] at this
        rw [this] at k10; exact k10
  · rw [hE]
    have hw : wrL m X f ys = X := by unfold wrL; rw [if_neg (by omega)]
    rw [hw] at k8
    refine br_t rfl (call_of (readA h4.size m X 0 m h8 k8 (by omega)) ?_)
    rintro v h9 ⟨a9, c9, rfl, r9, n9⟩
    refine ⟨((a9, (bytesOf X 0 m).length, c9), errV 0), rfl, call_of (Same3.same_ok _ _ _ _ _ _ h9 (bytesOf X 0 m) (bytesOf X 0 m) rfl rfl (show (bytesOf X 0 m).length ≤ 9223372036854775806 by omega) r9.ar ((r48 u8).new n9).ar) ?_⟩
    rintro v h' ⟨rfl, hh⟩; subst h'
    exact ⟨true, by simp [retV, vals, Ty.val, CTy.val], rfl, n08.trans n9⟩
theorem trL_put {m : Nat} {xs : List Int} {f n : Nat} (h : f + n ≤ m) : trL m xs f n = putL xs (16 * f) (List.replicate (16 * n) 0) := by
  have e : isE (m : Int) (f : Int) (n : Int) = 0 := by unfold isE isB; rw [decide_eq_true (by omega)]; rfl
  unfold trL; rw [e, if_pos rfl, Int.toNat_natCast, Int.toNat_natCast]
theorem wrL_put {m : Nat} {xs ys : List Int} {f : Nat} (h : writeE m f ys.length = 0) : wrL m xs f ys = putL xs (16 * f) ys := by unfold wrL; rw [if_pos h, Int.toNat_natCast]
theorem apart_law (h : Heap) (v0 v1 v2 v3 v4 : Value) (bl : Int) (f : Int) (ys : List Int) (g : Int) (zs : List Int) (r0 : ReadsV h (.int .i64) v0 bl) (r1 : ReadsV h (.int .i64) v1 f) (r2 : ReadsV h (.slice (.int .u8)) v2 ys) (r3 : ReadsV h (.int .i64) v3 g) (r4 : ReadsV h (.slice (.int .u8)) v4 zs) (hg : Laid h) :
    CallsH Tryd.prog 7 [v0, v1, v2, v3, v4] h fun v h' => v = .bool true ∧ New h h' := by
  obtain ⟨rfl, _⟩ := int_of r0
  obtain ⟨rfl, _⟩ := int_of r1
  obtain ⟨ab, cb, rfl, hlb, hcb, _, arb, _⟩ := Ar.reads r2
  obtain ⟨rfl, _⟩ := int_of r3
  obtain ⟨ac, cc, rfl, hlc, hcc, _, arc, _⟩ := Ar.reads r4
  have hmx : (maxLen : Nat) ≤ 9223372036854775807 := by simp [maxLen]
  refine fun_ok hm' Tryd.func7 (by kernel_rfl) (F7_eq bl f ab ys.length cb g ac zs.length cc _ h) ?_
  unfold F7
  refine call_of (awake_ok h hg) ?_
  rintro v h1 ⟨rfl, n1⟩
  refine ⟨true, rfl, br_f rfl ?_⟩
  by_cases hbl : ¬ (1 ≤ bl ∧ bl ≤ 64)
  · refine call_of (new_no bl h1 hbl) ?_
    rintro v h' ⟨rfl, hh⟩; subst h'
    exact ⟨(none, errV 1), rfl, cut_of (br_t rfl ⟨rfl, n1⟩)⟩
  have hbl : 1 ≤ bl ∧ bl ≤ 64 := Classical.not_not.1 hbl
  obtain ⟨m, rfl⟩ := Int.eq_ofNat_of_zero_le (show 0 ≤ bl by omega)
  have hm : 1 ≤ m ∧ m ≤ 64 := by omega
  refine call_of (new_ok m h1 hm) ?_
  rintro v h2 ⟨rfl, m2, n2⟩
  have n02 := n1.trans n2
  have hB : h.size ≤ h1.size := n1.size
  have hBlt := m2.blk.lt
  have hX : z1024.length = 1024 := z_len
  have m2 : MAt h2 h1.size z1024 m := m2
  generalize z1024 = X at m2 hX
  generalize h1.size = B at *
  refine ⟨(some ⟨B, 0, none⟩, errV 0), rfl, cut_of (br_f rfl (br_of (fun _ => ⟨rfl, n02⟩) fun hl1 => br_of (fun _ => ⟨rfl, n02⟩) fun hl2 _ => ?_))⟩
  have hl1 : ys.length ≤ 1200 := by simp at hl1; omega
  have hl2 : zs.length ≤ 1200 := by simp at hl2; omega
  refine call_of (copy_ok B m X h2 m2) ?_
  rintro v h3 ⟨rfl, x3, n3⟩
  refine ⟨some ⟨h2.size, 0, none⟩, rfl, call_of (copy_ok B m X h3 (m2.new n3)) ?_⟩
  rintro v h4 ⟨rfl, y4, n4⟩
  refine ⟨some ⟨h3.size, 0, none⟩, rfl, call_of (copy_ok B m X h4 ((m2.new n3).new n4)) ?_⟩
  rintro v h5 ⟨rfl, z5, n5⟩
  have s3 := n3.size; have s4 := n4.size; have s5 := n5.size; have sz2 := n02.size
  have l3 := x3.blk.lt; have l4 := y4.blk.lt; have l5 := z5.blk.lt
  have n05 := ((n02.trans n3).trans n4).trans n5
  have x5 := (x3.new n4).new n5
  have y5 := y4.new n5
  have hbx : h.size ≤ h2.size := by omega
  have hby : h.size ≤ h3.size := by omega
  have hbz : h.size ≤ h4.size := by omega
  generalize hx : h2.size = bx at *
  generalize hy : h3.size = by_ at *
  generalize hz : h4.size = bz at *
  refine ⟨some ⟨bz, 0, none⟩, rfl, ?_⟩
  refine cut_q (ts := []) (fun _ h' => ∃ f' g' : Nat, f = (f' : Int) ∧ g = (g' : Int) ∧ writeE m f' ys.length = 0 ∧ writeE m g' zs.length = 0 ∧ MAt h' bx (putL X (16 * f') ys) m ∧ MAt h' by_ (putL X (16 * g') zs) m ∧ MAt h' bz X m ∧ New h h' ∧ h5.size ≤ h'.size) ?_ ?_
  rotate_left
  · intro K hK
    refine call_of (write_ok bx m X f ab cb ys h5 x5 (arb.new n05) (arb.ne hbx) hlb (by omega)) ?_
    rintro v h6 ⟨rfl, x6, u6⟩
    have n06 : New h h6 := u6.new n05 hbx
    refine ⟨errV (writeE m f ys.length), rfl, errV_if _, ?_⟩
    by_cases hE : ¬ writeE m f ys.length = 0
    · rcases writeE_or m f ys.length with hE' | hE'
      · exact absurd hE' hE
      · rw [hE']; exact br_t rfl ⟨rfl, n06⟩
    have hE := Classical.not_not.1 hE
    rw [hE]
    refine br_f rfl (call_of (write_ok by_ m X g ac cc zs h6 (y5.upd u6 (by omega)) (arc.new n06) (arc.ne hby) hlc (by omega)) ?_)
    rintro v h7 ⟨rfl, y7, u7⟩
    have n07 : New h h7 := u7.new n06 hby
    refine ⟨errV (writeE m g zs.length), rfl, errV_if _, ?_⟩
    by_cases hE2 : ¬ writeE m g zs.length = 0
    · rcases writeE_or m g zs.length with hE' | hE'
      · exact absurd hE' hE2
      · rw [hE']; exact br_t rfl ⟨rfl, n07⟩
    have hE2 := Classical.not_not.1 hE2
    rw [hE2]
    obtain ⟨f', rfl⟩ := Int.eq_ofNat_of_zero_le (writeE_spec hE).2.1
    obtain ⟨g', rfl⟩ := Int.eq_ofNat_of_zero_le (writeE_spec hE2).2.1
    rw [wrL_put hE] at x6
    rw [wrL_put hE2] at y7
    have s6 := u6.size; have s7 := u7.size
    exact br_f rfl (hK () h7 ⟨f', g', rfl, rfl, hE, hE2, x6.upd u7 (by omega), y7, (z5.upd u6 (by omega)).upd u7 (by omega), n07, by omega⟩)
  rintro _ h7 ⟨f, g, rfl, rfl, hE, hE2, x7, y7, z7, n07, s7⟩ _
  obtain ⟨h16, _, hfm⟩ := writeE_spec hE
  obtain ⟨h16', _, hgm⟩ := writeE_spec hE2
  have ed : IntKind.wrap .i64 (Int.tdiv ((ys.length : Nat) : Int) 16) = ((ys.length / 16 : Nat) : Int) := by rw [Int.tdiv_eq_ediv_of_nonneg (by omega), wr64 (by omega) (by omega)]; omega
  have ed' : IntKind.wrap .i64 (Int.tdiv ((zs.length : Nat) : Int) 16) = ((zs.length / 16 : Nat) : Int) := by rw [Int.tdiv_eq_ediv_of_nonneg (by omega), wr64 (by omega) (by omega)]; omega
  rw [ed, ed', wr64 (by omega) (by omega), wr64 (by omega) (by omega)]
  refine cut_q (ts := [.sc .bool]) (fun (t : Bool) h' => h' = h7 ∧ (t = true → f + ys.length / 16 ≤ g ∨ g + zs.length / 16 ≤ f)) ?_ ?_
  rotate_left
  · intro K hK
    exact br_of (fun h0 => hK _ _ ⟨rfl, fun _ => .inl (by simp at h0; omega)⟩) fun h0 => hK _ _ ⟨rfl, fun h1 => .inr (by simp at h1; omega)⟩
  rintro t h' ⟨hh, hap⟩ _
  subst h'
  have e1 := putL_len (xs := X) (ys := ys) (o := 16 * f) (by omega)
  have e2 := putL_len (xs := X) (ys := zs) (o := 16 * g) (by omega)
  refine call_of (write_ok bx m _ (g : Int) ac cc zs h7 x7 (arc.new n07) (arc.ne hbx) hlc (by omega)) ?_
  rintro v h8 ⟨rfl, x8, u8⟩
  rw [wrL_put hE2] at x8
  have n08 : New h h8 := u8.new n07 hbx
  refine ⟨_, rfl, call_of (write_ok by_ m _ (f : Int) ab cb ys h8 (y7.upd u8 (by omega)) (arb.new n08) (arb.ne hby) hlb (by omega)) ?_⟩
  rintro v h9 ⟨rfl, y9, u9⟩
  rw [wrL_put hE] at y9
  have n09 : New h h9 := u9.new n08 hby
  have x9 := x8.upd u9 (by omega)
  have z9 := (z7.upd u8 (by omega)).upd u9 (by omega)
  have s8 := u8.size; have s9 := u9.size
  have hXY := x9.len
  have hYX := y9.len
  refine ⟨_, rfl, call_of (readA bx m _ 0 m h9 x9 (by omega)) ?_⟩
  rintro v h10 ⟨a1, c1, rfl, w1, n10⟩
  have hb1 := bytesOf_len (f := 0) (n := m) hXY (by omega)
  have hb2 := bytesOf_len (f := 0) (n := m) hYX (by omega)
  refine ⟨((a1, _, c1), errV 0), rfl, call_of (readA by_ m _ 0 m h10 (y9.new n10) (by omega)) ?_⟩
  rintro v h11 ⟨a2, c2, rfl, w2, n11⟩
  refine ⟨((a2, _, c2), errV 0), rfl, ?_⟩
  have n911 := n10.trans n11
  have n011 := n09.trans n911
  refine cut_q (ts := []) (fun _ h' => h' = h11) ?_ ?_
  rotate_left
  · intro K hK
    refine br_of (fun ht => ?_) fun _ => hK () _ rfl
    have hc := putL_comm (xs := X) (ys := ys) (zs := zs) (o := 16 * f) (p := 16 * g) (by omega) (by omega) (by have := hap ht; omega)
    refine call_of (Same3.same_ok _ _ _ _ _ _ h11 _ _ rfl rfl (show (bytesOf _ 0 m).length ≤ 9223372036854775806 by omega) (w1.new n11).ar w2.ar) ?_
    rintro v h' ⟨rfl, hh⟩; subst h'
    refine ⟨_, rfl, br_f ?_ (hK () _ rfl)⟩
    simp [hc]
  rintro _ h' hh _
  subst h'
  have x11 := x9.new n911
  have z11 := z9.new n911
  have s11 := n911.size
  refine call_of (write_ok bx m _ (g : Int) ac cc zs h11 x11 (arc.new n011) (arc.ne hbx) hlc (by omega)) ?_
  rintro v h12 ⟨rfl, x12, u12⟩
  rw [wrL_put hE2, putL_twice (by omega)] at x12
  have n012 : New h h12 := u12.new n011 hbx
  refine ⟨_, rfl, call_of (readA bx m _ 0 m h12 x12 (by omega)) ?_⟩
  rintro v h13 ⟨a3, c3, rfl, w3, n13⟩
  have s12 := u12.size; have s13 := n13.size
  have n013 := n012.trans n13
  refine ⟨((a3, _, c3), errV 0), rfl, call_of (write_ok bz m X (f : Int) ab cb ys h13 ((z11.upd u12 (by omega)).new n13) (arb.new n013) (arb.ne hbz) hlb (by omega)) ?_⟩
  rintro v h14 ⟨rfl, z14, u14⟩
  rw [wrL_put hE] at z14
  have s14 := u14.size
  have n014 : New h h14 := u14.new n013 hbz
  refine ⟨_, rfl, call_of (copy_ok bz m _ h14 z14) ?_⟩
  rintro v h15 ⟨rfl, k15, n15⟩
  have s15 := n15.size
  have lk := k15.blk.lt
  refine ⟨some ⟨h14.size, 0, none⟩, rfl, call_of (trim_ok bz m _ (f : Int) ((ys.length / 16 : Nat) : Int) h15 (z14.new n15)) ?_⟩
  rintro v h16_ ⟨rfl, z16, u16⟩
  rw [trL_put (by omega), putL_over (by omega) (by simp; omega)] at z16
  have s16 := u16.size
  have n016 : New h h16_ := u16.new (n014.trans n15) hbz
  refine ⟨_, rfl, mk_of (n := ys.length) size5 zero5 (by rw [bytes5]; omega) (by omega) fun h17 b17 n17 s17 => ?_⟩
  have ez : Array.replicate ys.length (Value.int .u8 0) = ((List.replicate ys.length (0 : Int)).map (Value.int .u8)).toArray := by simp
  rw [ez] at b17
  have hzl : (List.replicate ys.length (0 : Int)).length = ys.length := by simp
  have k17 := (k15.upd u16 (by omega)).new n17
  have hwc := write_ok h14.size m _ (f : Int) (some ⟨h16_.size, 0, none⟩) ys.length (List.replicate ys.length 0) h17 k17 (Ar.blk b17) (fun _ e => by injection e with e; change h16_.size = h14.size at e; omega) (by omega) (by omega)
  rw [hzl] at hwc
  refine call_of hwc ?_
  rintro v h18 ⟨rfl, k18, u18⟩
  have hE3 : writeE m (f : Int) (List.replicate ys.length (0 : Int)).length = 0 := by rw [hzl]; exact hE
  rw [wrL_put hE3, putL_over (by omega) hzl] at k18
  have s17 := n17.size; have s18 := u18.size
  have z18 := (z16.new n17).upd u18 (by omega)
  have hzz := z18.len
  have hkk := k18.len
  have n018 : New h h18 := u18.new (n016.trans n17) (by omega)
  refine ⟨_, rfl, call_of (readA bz m _ 0 m h18 z18 (by omega)) ?_⟩
  rintro v h19 ⟨a4, c4, rfl, w4, n19⟩
  refine ⟨((a4, _, c4), errV 0), rfl, call_of (readA h14.size m _ 0 m h19 (k18.new n19) (by omega)) ?_⟩
  rintro v h20 ⟨a5, c5, rfl, w5, n20⟩
  refine ⟨((a5, _, c5), errV 0), rfl, ?_⟩
  have n1820 := n19.trans n20
  have v1 : Row h9 h20 a1 c1 _ := (((((w1.new n11).upd u12 (by omega)).new n13).upd u14 (by omega)).new n15 |>.upd u16 (by omega)).new n17 |>.upd' u18 (fun g hg => by have := (w1.ge g hg).2; have := n11.size; omega) |>.new n1820
  have v3 : Row h12 h20 a3 c3 _ := ((((w3.upd u14 (by omega)).new n15).upd u16 (by omega)).new n17).upd' u18 (fun g hg => by have := (w3.ge g hg).2; omega) |>.new n1820
  refine call_of (Same3.same_ok _ _ _ _ _ _ h20 _ _ rfl rfl (show (bytesOf _ 0 m).length ≤ 9223372036854775806 by omega) v1.ar v3.ar) ?_
  rintro v h' ⟨rfl, hh⟩; subst h'
  refine ⟨true, by simp [retV, vals, Ty.val, CTy.val], br_t rfl (call_of (Same3.same_ok _ _ _ _ _ _ h20 _ _ rfl rfl (show (bytesOf _ 0 m).length ≤ 9223372036854775806 by rw [bytesOf_len hzz (by omega)]; omega) (w4.new n20).ar w5.ar) ?_)⟩
  rintro v h' ⟨rfl, hh⟩; subst h'
  refine ⟨true, ?_, rfl, n018.trans n1820⟩
  have : List.replicate (16 * (ys.length / 16)) (0 : Int) = List.replicate ys.length 0 := by congr 1; omega
  rw [this]; simp [retV, vals, Ty.val, CTy.val]
end Go.Proofs.YtogeildomhahjaaDoor.L18
