/-
  The contracts of reference 10: Put.
-/
import Derived.Test.YtfanjfbenhocnaaGreatDoorCaS
namespace Go.Proofs.YtfanjfbenhocnaaGreatDoor.Ca
open Go.Pl Go.Pl.Lru Go.Pl.Ix Go.Proofs.YtfanjfbenhocnaaGreatDoor.W Go.Proofs.YtfanjfbenhocnaaGreatDoor.Lru Go.Proofs.YtfanjfbenhocnaaGreatDoor.IxS
open Go.Proofs.YtfanjfbenhocnaaGreatDoor.R8M (RKL ins8L tou8L rem8L vic8L in8L new8_ok)
/-- The end of Put: a block is put in its place, and its slot. -/
def tailP (q : Addr) (x ad : Int) (di : Bool) (s40 s31 : Int) (K : Value → Heap → Prop) (h41 : Heap) : Prop :=
  cutT [] (fun (K46 : Unit → Heap → Prop) h104 =>
  ldW .slice (Addr.add q 0) (fun (x47 : Option Addr × Nat × Nat) =>
  slW x47.1 x47.2.2 3 (0 : Int) s40 (((x47.2.2 : Nat) : Int)) (fun b48 n49 c50 =>
  ldW .slice (Addr.add q 0) (fun (x51 : Option Addr × Nat × Nat) =>
  slW x51.1 x51.2.2 3 s40 (((x51.2.1 : Nat) : Int)) (((x51.2.2 : Nat) : Int)) (fun b52 n53 c54 =>
    ins3F Tryz.prog 48 TR #[.int .i64 x, .int .u32 ad, .bool di] (fun h => cellH h (Addr.add q 0) = some (.slice x51.1 x51.2.1 x51.2.2)) b48 n49 c50 b52 n53 c54 (fun b n c h => stW (Addr.add q 0) (.slice b n c) (fun h71 => K46 () h71) h) h104)) h104)) h104) (fun (_s105 : Unit) _ h106 =>
  ldW .slice (Addr.add q 1) (fun (x107 : Option Addr × Nat × Nat) =>
  slW x107.1 x107.2.2 1 (0 : Int) s40 (((x107.2.2 : Nat) : Int)) (fun b108 n109 c110 =>
  ldW .slice (Addr.add q 1) (fun (x111 : Option Addr × Nat × Nat) =>
  slW x111.1 x111.2.2 1 s40 (((x111.2.1 : Nat) : Int)) (((x111.2.2 : Nat) : Int)) (fun b112 n113 c114 =>
    ins3F Tryz.prog 45 TI #[.int .i64 s31] (fun h => cellH h (Addr.add q 1) = some (.slice x111.1 x111.2.1 x111.2.2)) b108 n109 c110 b112 n113 c114 (fun b n c h => stW (Addr.add q 1) (.slice b n c) (fun h71 => K (.bool true) h71) h) h106)) h106)) h106) h41
section
variable {k q kq c0 c1 S : Nat} {t t' : Tags} {h h' : Heap} {a0 a1 : Option Addr} {c : Cm} {ρ : Nat → Nat} {T : TypeId}
theorem tailP_ok (a : RH k t h q kq a0 c0 a1 c1 S c ρ T) {h2 : Heap} {n i s : Nat} {ad : Int} {di : Bool} (hE : c.E n = none) (h64 : n < 64) (hi : i ≤ (blocks c).length) (g1 : ∀ m ∈ (blocks c).take i, m < n) (g2 : ∀ h : i < (blocks c).length, ¬ (blocks c)[i] < n)
    (hs : s < S) (hsn : s ∉ (que c.B).map ρ) (hlen : (que c.B).length < S) (u2 : Upd kq h h2) (x2 : RKL (fun g => (g < h.size ∧ t g = (k, 4)) ∨ (h.size ≤ g ∧ g < h2.size)) h2 kq (upL (mapL ρ c.B) 0 (s :: mapL ρ c.B 0)) S) {K : Value → Heap → Prop}
    (hK : ∀ h', RActed k t h q S ⟨upL c.B 0 (n :: c.B 0), setE c.E n (some (ad, di))⟩ h' → K (.bool true) h') : tailP ⟨q, 0, none⟩ (n : Int) ad di (i : Int) (s : Int) K h2 := by
  have hbl := a.bl
  have q2 : Blk h2 q _ T := a.blk.upd u2 (tag_ne a.tq a.tk (by decide))
  have r02 : RowS h2 TR 3 a0 (blocks c).length c0 (encs (allC c)) := a.row0.keep u2.size fun g hg hl => u2.same g hl (tag_ne (a.t0 g hg).2 a.tk (by decide))
  have r12 : RowS h2 TI 1 a1 (blocks c).length c1 (nV ((blocks c).map ρ)) := a.row1.keep u2.size fun g hg hl => u2.same g hl (tag_ne (a.t1 g hg).2 a.tk (by decide))
  have ld0 : ∀ {F : Option Addr × Nat × Nat → Prop}, F (a0, (blocks c).length, c0) → ldW .slice (Addr.add ⟨q, 0, none⟩ 0) F h2 := fun hF => ld_of (c := .slice) (a0, (blocks c).length, c0) (by rw [add_mk, cellH_blk q2]; rfl) hF
  have hc0 := r02.le
  have hc1 := r12.le
  have hz : i - Int.toNat 0 = i := by rw [show Int.toNat 0 = 0 from rfl]; omega
  have hAl := all_len c
  obtain ⟨c', hc'⟩ : ∃ c' : Cm, c' = ⟨upL c.B 0 (n :: c.B 0), setE c.E n (some (ad, di))⟩ := ⟨_, rfl⟩
  have hal := all_put (B' := upL c.B 0 (n :: c.B 0)) (e := (ad, di)) h64 hE hi g1 g2
  obtain ⟨hbp, hnb⟩ := blocks_put (B' := upL c.B 0 (n :: c.B 0)) (e := (ad, di)) h64 hE hi g1 g2
  have hn : n ∉ que c.B := fun hm => by have := (a.inv.mem n).1 hm; rw [hE] at this; cases this
  have hinv : Inv S c' := by
    have := a.inv.put (n : Int) ad di
    unfold putC at this
    rw [at_nat, hE] at this
    simp only [] at this
    rw [if_pos ⟨by omega, by omega, hlen⟩] at this
    rw [hc']; simpa using this
  rw [← hc'] at hal hbp hK
  unfold tailP
  refine cut_q (ts := []) (fun _ h4 => ∃ h3 a0' c0', New h2 h3 ∧ RowS h3 TR 3 a0' (blocks c').length c0' (encs (allC c')) ∧ OwnH h3 0 TR 3 a0' (blocks c').length c0' (encs (allC c')) ∧ (∀ g, blkOf a0' = some g → h2.size ≤ g ∧ g < h3.size) ∧ Only q h3 h4 ∧ Blk h4 q #[.slice a0' (blocks c').length c0', .slice a1 (blocks c).length c1, ptr kq, .int .i64 S] T) ?_ ?_
  rotate_left
  · intro K' hK'
    refine ld0 ⟨⟨by omega, by omega, (by first | omega | (dsimp only; omega) | (simp only []; omega)), (by first | omega | (dsimp only; omega) | (simp only []; omega))⟩, ld0 ⟨⟨by omega, (by first | omega | (dsimp only; omega) | (simp only []; omega)), (by first | omega | (dsimp only; omega) | (simp only []; omega)), (by first | omega | (dsimp only; omega) | (simp only []; omega))⟩, ?_⟩⟩
    dsimp only
    rw [add_mk, Int.toNat_natCast, Int.toNat_natCast, Int.toNat_natCast, hz]
    have sr := Src.row r02 (encs_one _)
    refine ins3_ok apR (lit := entV n (ad, di)) rfl (fun u hu => ?_) (fun h' n' => by rw [cellH_blk (q2.new n')]; rfl) (sr.take i c0 (by omega)) (sr.drop i c0 (by omega) hc0) (by decide) (by omega) (by decide) fun a0' c0' h3 w3 n3 l3 => ?_
    · unfold entV at hu
      simp only [List.mem_cons, List.not_mem_nil, or_false] at hu
      rcases hu with rfl | rfl | rfl <;> rfl
    have e0 : (encs (allC c)).take (i * 3) ++ entV n (ad, di) ++ (encs (allC c)).drop (i * 3) = encs (allC c') := by
      rw [hal, encs_cat, encs_app, ← encs_take, ← encs_drop]
    have hln : i + 1 + ((blocks c).length - i) = (blocks c').length := by rw [hbp]; simp; omega
    rw [e0] at w3
    rw [hln] at w3 ⊢
    exact st_blk (q2.new n3) (by simp) fun h4 q4 o4 => hK' () _ ⟨h3, a0', c0', n3, .inl w3, w3, l3, o4, q4⟩
  rintro _ h4 ⟨h3, a0', c0', n3, r3, w3, l3, o4, q4⟩ _
  have r14 : RowS h4 TI 1 a1 (blocks c).length c1 (nV ((blocks c).map ρ)) := (r12.new n3).keep (Nat.le_of_eq o4.size.symm) fun g hg _ => o4.same g (tag_ne (a.t1 g hg).2 a.tq (by decide))
  have ld1 : ∀ {F : Option Addr × Nat × Nat → Prop}, F (a1, (blocks c).length, c1) → ldW .slice (Addr.add ⟨q, 0, none⟩ 1) F h4 := fun hF => ld_of (c := .slice) (a1, (blocks c).length, c1) (by rw [add_mk, cellH_blk q4]; rfl) hF
  refine ld1 ⟨⟨by omega, by omega, (by first | omega | (dsimp only; omega) | (simp only []; omega)), (by first | omega | (dsimp only; omega) | (simp only []; omega))⟩, ld1 ⟨⟨by omega, (by first | omega | (dsimp only; omega) | (simp only []; omega)), (by first | omega | (dsimp only; omega) | (simp only []; omega)), (by first | omega | (dsimp only; omega) | (simp only []; omega))⟩, ?_⟩⟩
  dsimp only
  rw [add_mk, Int.toNat_natCast, Int.toNat_natCast, Int.toNat_natCast, hz]
  have sr1 := Src.row r14 (nV_one _)
  refine ins3_ok apF (lit := [.int .i64 s]) rfl (fun u hu => by rw [List.mem_singleton.1 hu]; rfl) (fun h' n' => by rw [cellH_blk (q4.new n')]; rfl) (sr1.take i c1 (by omega)) (sr1.drop i c1 (by omega) hc1) (by decide) (by omega) (by decide) fun a1' c1' h5 w5 n5 l5 => ?_
  have hup : ∀ l : List Nat, n ∉ l → l.map (upR ρ n s) = l.map ρ := fun l hl => upR_map hl
  have hnb' := fun (hh : n ∈ (blocks c).take i ∨ n ∈ (blocks c).drop i) => hnb (List.mem_append.2 hh)
  have e1 : (nV ((blocks c).map ρ)).take (i * 1) ++ [.int .i64 (s : Int)] ++ (nV ((blocks c).map ρ)).drop (i * 1) = nV ((blocks c').map (upR ρ n s)) := by
    rw [hbp, List.map_append, List.map_append, hup _ (fun hh => hnb' (.inl hh)), hup _ (fun hh => hnb' (.inr hh)), Nat.mul_one]
    have : [n].map (upR ρ n s) = [s] := by show [upR ρ n s n] = [s]; rw [show upR ρ n s n = s from if_pos rfl]
    rw [this]
    simp [List.map_take, List.map_drop]
  have hln : i + 1 + ((blocks c).length - i) = (blocks c').length := by rw [hbp]; simp; omega
  rw [e1] at w5
  rw [hln] at w5 ⊢
  refine st_blk (q4.new n5) (by simp) fun h6 q6 o6 => hK h6 ?_
  have hp := up0_perm c.B n
  have hmq : ∀ m, m ∈ que c'.B ↔ m = n ∨ m ∈ que c.B := fun m => by rw [hc']; rw [hp.mem_iff, List.mem_cons]
  have rn : upR ρ n s n = s := if_pos rfl
  have rm : ∀ {m}, m ≠ n → upR ρ n s m = ρ m := fun h => if_neg h
  refine a.renew (c' := c') (ρ' := upR ρ n s) u2 x2 (fun qq hq => ?_) hinv (fun x hx y hy e => ?_) (fun m hm => ?_) rfl n3 r3 (fun _ => w3) l3 o4 n5 (.inl w5) l5 o6 q6
  · rw [hc', map_up]
    have e0 : ∀ q, q < 2 → mapL ρ c.B q = mapL (upR ρ n s) c.B q := fun q hq => (upR_map fun hm => hn (row_que hq hm)).symm
    show upL (mapL ρ c.B) 0 (s :: mapL ρ c.B 0) qq = upL (mapL (upR ρ n s) c.B) 0 ((n :: c.B 0).map (upR ρ n s)) qq
    unfold upL
    by_cases e : qq = 0
    · rw [if_pos e, if_pos e, List.map_cons, e0 0 (by decide)]
      show s :: _ = upR ρ n s n :: _
      rw [rn]; rfl
    · rw [if_neg e, if_neg e]; exact e0 qq hq
  · have hx := (hmq x).1 hx
    have hy := (hmq y).1 hy
    by_cases hxn : x = n
    · by_cases hyn : y = n
      · rw [hxn, hyn]
      · rw [hxn, rn, rm hyn] at e
        exact (hsn (e ▸ List.mem_map_of_mem (hy.resolve_left hyn))).elim
    · by_cases hyn : y = n
      · rw [hyn, rn, rm hxn] at e
        exact (hsn (e ▸ List.mem_map_of_mem (hx.resolve_left hxn))).elim
      · rw [rm hxn, rm hyn] at e
        exact a.inj x (hx.resolve_left hxn) y (hy.resolve_left hyn) e
  · rcases (hmq m).1 hm with rfl | hm
    · rw [rn]; exact hs
    · rw [rm fun e => hn (e ▸ hm)]; exact a.lt m hm
set_option maxHeartbeats 1000000 in
theorem rput_ok (x ad : Int) (di : Bool) (a : RRep k t h q S c) :
    CallsH Tryz.prog 32 [ptr q, .int .i64 x, .int .u32 ad, .bool di] h fun v h' => v = .bool (putC S c x ad di).1 ∧ RActed k t h q S (putC S c x ad di).2 h' := by
  have a' := a
  obtain ⟨kq, a0, c0, a1, c1, ρ, T, a⟩ := a
  refine fun_ok hm' Tryz.func32 (by kernel_rfl) (F32_eq _ _ _ _ _ h) ?_
  unfold F32
  have hbl := a.bl
  have hle := a.inv.le
  refine call_of (find_ok x a) ?_
  rintro v h' ⟨hh, ⟨h0, rfl⟩ | ⟨i, n, e, rfl, h64, hq, hi, he, ha, rfl⟩⟩ <;> subst h'
  rotate_left
  · have hiL := (List.getElem?_eq_some_iff.1 hi).1
    have eg : putC S c (n : Int) ad di = (true, ⟨touL S c.B n, setE c.E n (some (ad, di || e.2))⟩) := by unfold putC; rw [ha]; simp
    rw [eg]
    obtain ⟨g, e1, w⟩ := a.own' hi
    have tg := (a.t0 g (by rw [e1]; rfl)).2
    have hel := encs_len (allC c)
    have hal := all_len c
    have hae := blocks_ev hi he
    obtain ⟨hiA, hag⟩ := List.getElem?_eq_some_iff.1 hae
    refine ⟨(i : Int), rfl, br_t (decide_eq_true (by omega)) (ld_of (c := .slice) (a0, (blocks c).length, c0) a.k0 ?_)⟩
    subst e1
    refine ptr_of ⟨⟨(by first | omega | (dsimp only; omega) | (simp only []; omega)), rfl⟩, ?_⟩
    rw [Int.toNat_natCast, add_mk, add_mk, Nat.zero_add]
    refine own_set w (by omega) fun h2 w2 o2 => ?_
    rw [encs_set (allC c) i (n, (ad, e.2)) hiA 1 _ (by rw [hag]; rfl) (by decide)] at w2
    have q2 := a.blk.only o2 (tag_ne a.tq tg (by decide))
    refine cut_q (ts := []) (fun _ h3 => OwnH h3 0 TR 3 (some ⟨g, 0, none⟩) (blocks c).length c0 (encs ((allC c).set i (n, (ad, di || e.2)))) ∧ Only g h h3) ?_ ?_
    rotate_left
    · intro K hK
      have ld0 : ∀ {F : Option Addr × Nat × Nat → Prop}, F (some ⟨g, 0, none⟩, (blocks c).length, c0) → ldW .slice ⟨q, 0 + 0, none⟩ F h2 := fun hF => ld_of (c := .slice) (some ⟨g, 0, none⟩, (blocks c).length, c0) (by rw [cellH_blk q2]; rfl) hF
      have cell2 : cellH h2 ⟨g, i * 3 + 2, none⟩ = some (.bool e.2) := by
        have hz : ((allC c).set i (n, (ad, e.2)))[i]? = some (n, (ad, e.2)) := by rw [List.getElem?_set_self hiA]
        obtain ⟨g', o', e', _, hc⟩ := ER.own w2 i _ hz
        injection e' with e'; injection e' with e1 e2
        have := hc 2 (by decide)
        rw [← e1, ← e2, Nat.zero_add] at this
        exact this
      have step : ∀ b, b = (di || e.2) → stW ⟨g, i * 3 + 2, none⟩ (.bool b) (fun h12 => K () h12) h2 := fun b hb => by
        have hl2 : (encs ((allC c).set i (n, (ad, e.2)))).length = (allC c).length * 3 := by rw [encs_len, List.length_set]
        refine own_set w2 (by omega) fun h3 w3 o3 => ?_
        have hiA2 : i < ((allC c).set i (n, (ad, e.2))).length := by rw [List.length_set]; exact hiA
        have hg2 : ((allC c).set i (n, (ad, e.2)))[i] = (n, (ad, e.2)) := by rw [List.getElem_set_self]
        rw [encs_set _ i (n, (ad, di || e.2)) hiA2 2 _ (by rw [hg2, hb]; rfl) (by decide), List.set_set] at w3
        exact hK () _ ⟨w3, o2.trans o3⟩
      refine ld0 (ld0 (ptr_of ⟨⟨(by first | omega | (dsimp only; omega) | (simp only []; omega)), rfl⟩, ?_⟩))
      rw [add_mk, add_mk, Nat.zero_add]
      refine ld_of (c := .bool) e.2 cell2 (br_of (fun hd => ptr_of ⟨⟨(by first | omega | (dsimp only; omega) | (simp only []; omega)), rfl⟩, ?_⟩) fun hd => ptr_of ⟨⟨(by first | omega | (dsimp only; omega) | (simp only []; omega)), rfl⟩, ?_⟩)
      · rw [add_mk, add_mk, Nat.zero_add]
        exact step true (by rw [hd]; simp)
      · rw [add_mk, add_mk, Nat.zero_add]
        exact step di (by rw [hd]; simp)
    rintro _ h3 ⟨w3, o3⟩ _
    obtain ⟨a3, f3⟩ := a.set hi he (e' := (ad, di || e.2)) (fun g' hg' => by injection hg' with hg'; injection hg' with hg'; subst hg'; exact o3) w3
    have hbs := blocks_set (B' := c.B) (e' := (ad, di || e.2)) he
    obtain ⟨hs1, hs2⟩ := slots_get (ρ := ρ) hi
    have sl3 := a3.slot
    rw [hbs] at sl3
    have k13 := a3.k1
    rw [hbs] at k13
    refine ld_of (c := .ptr) (some ⟨kq, 0, none⟩) a3.k2 (ld_of (c := .slice) (a1, (blocks c).length, c1) k13 (ix_ld sl3 hs1 hiL ?_))
    rw [hs2]
    refine call_of (tou8L (ρ n : Int) a.inv.le a3.qn a3.ql a3.rk) ?_
    rintro v h4 ⟨rfl, x4, u4⟩
    have hi3 : inI (mapL ρ c.B) (ρ n : Int) = true := map_in hq
    have x4' : RKL (fun g => (g < h3.size ∧ t g = (k, 4)) ∨ (h3.size ≤ g ∧ g < h4.size)) h4 kq (touL S (mapL ρ c.B) (ρ n)) S := by
      have := x4
      rw [if_pos hi3, Int.toNat_natCast] at this
      exact this
    obtain ⟨a4, f4⟩ := a3.tou hq u4 x4'
    exact ⟨_, rfl, rfl, _, ⟨kq, _, c0, a1, c1, ρ, T, a4⟩, f3.trans f4⟩
  refine ⟨(-1 : Int), rfl, br_f rfl ?_⟩
  have no : ¬ (0 ≤ x ∧ x < 64 ∧ (que c.B).length < S) → Value.bool false = .bool (putC S c x ad di).1 ∧ RActed k t h q S (putC S c x ad di).2 h := fun hh => by
    have : putC S c x ad di = (false, c) := by unfold putC; rw [h0]; simp only []; rw [if_neg hh]
    rw [this]; exact ⟨rfl, t, a', Fr.refl _ _ _⟩
  have hbq := blocks_len a.inv
  refine cut_q (ts := []) (fun _ h' => h' = h ∧ (0 ≤ x ∧ x < 64 ∧ (que c.B).length < S)) ?_ ?_
  rotate_left
  · intro K hK
    refine br_of (fun g0 => no ?_) fun g0 => br_of (fun g1 => no ?_) fun g1 => ld_of (c := .slice) (a0, (blocks c).length, c0) a.k0 (ld_of (c := .int .i64) (S : Int) a.k3 (br_of (fun g2 => no ?_) fun g2 => hK () _ ⟨rfl, ?_⟩))
    · have g0 : x < 0 := of_decide_eq_true g0
      omega
    · have g1 : x > 63 := of_decide_eq_true g1
      omega
    · have g2 : ((blocks c).length : Int) ≥ (S : Int) := of_decide_eq_true g2
      omega
    · have g0 : ¬ x < 0 := of_decide_eq_false g0
      have g1 : ¬ x > 63 := of_decide_eq_false g1
      have g2 : ¬ ((blocks c).length : Int) ≥ (S : Int) := of_decide_eq_false g2
      omega
  rintro _ h' ⟨hh, hx⟩ _; subst h'
  obtain ⟨n, rfl⟩ := Int.eq_ofNat_of_zero_le hx.1
  obtain ⟨hx0, hx1, hx2⟩ := hx
  have eg : putC S c (n : Int) ad di = (true, ⟨upL c.B 0 (n :: c.B 0), setE c.E n (some (ad, di))⟩) := by unfold putC; rw [h0]; simp only []; rw [if_pos ⟨hx0, hx1, hx2⟩, Int.toNat_natCast]
  rw [eg]
  clear no a'
  have hE : c.E n = none := by rw [at_nat] at h0; exact h0
  refine ⟨fun (s : Int) h' => h' = h ∧ ∃ s' : Nat, s = s' ∧ s' ≤ S ∧ ∀ m, m < s' → m ∈ (que c.B).map ρ, fun (s : Int) _ => ((S : Int) - s).toNat, ⟨rfl, 0, rfl, Nat.zero_le _, fun m hm => by omega⟩, ?_⟩
  rintro s j h' ⟨hh, s', rfl, hs', hall⟩; subst h'
  have hsl := sub_len s' _ hall
  rw [List.length_map] at hsl
  have hsS : s' < S := by omega
  have hin : inI (mapL ρ c.B) (s' : Int) = true ↔ s' ∈ (que c.B).map ρ := by
    rw [← que_map, mem_que]
    unfold inI
    simp
  refine ld_of (c := .ptr) (some ⟨kq, 0, none⟩) a.k2 (call_of (in8L (s' : Int) a.ql a.rk) ?_)
  rintro v h' ⟨rfl, hh⟩; subst h'
  refine ⟨_, rfl, br_of (fun hi => ⟨⟨rfl, s' + 1, (by first | (rw [wr64 (by omega) (by omega)]; omega) | (simp only [IntKind.wrap_i64]; omega)), hsS, fun m hm => ?_⟩, (by dsimp only; first | (rw [wr64 (by omega) (by omega)]; omega) | (rw [wr64 (by omega) (by omega), wr64 (by omega) (by omega)]; omega) | (simp only [IntKind.wrap_i64]; omega))⟩) fun hi => ?_⟩
  · by_cases hms : m = s'
    · subst hms; exact hin.1 hi
    · exact hall m (by omega)
  have hsn : s' ∉ (que c.B).map ρ := fun hm => by rw [hin.2 hm] at hi; cases hi
  have hi : inI (mapL ρ c.B) (s' : Int) = false := hi
  refine ld_of (c := .ptr) (some ⟨kq, 0, none⟩) a.k2 (call_of (ins8L (s' : Int) a.ql a.rk) ?_)
  rintro v h2 ⟨rfl, x2, u2⟩
  have hins : insL S (mapL ρ c.B) (s' : Int) = (true, upL (mapL ρ c.B) 0 (s' :: mapL ρ c.B 0)) := by
    unfold insL
    rw [if_pos ⟨by omega, by omega, hi⟩, Int.toNat_natCast]
  rw [hins] at x2
  refine ⟨_, rfl, ?_⟩
  have q2 : Blk h2 q _ T := a.blk.upd u2 (tag_ne a.tq a.tk (by decide))
  have er2 : ER h2 a0 (allC c) := a.er.same u2.size fun g hg hl => u2.same g hl (tag_ne (a.t0 g hg).2 a.tk (by decide))
  have ld0 : ∀ {F : Option Addr × Nat × Nat → Prop}, F (a0, (blocks c).length, c0) → ldW .slice (Addr.add ⟨q, 0, none⟩ 0) F h2 := fun hF => ld_of (c := .slice) (a0, (blocks c).length, c0) (by rw [add_mk, cellH_blk q2]; rfl) hF
  refine ⟨fun (s : Int) h' => h' = h2 ∧ ∃ i : Nat, s = i ∧ i ≤ (blocks c).length ∧ ∀ m ∈ (blocks c).take i, m < n, fun (s : Int) _ => (((blocks c).length : Int) - s).toNat, ⟨rfl, 0, rfl, Nat.zero_le _, fun m hm => by simp at hm⟩, ?_⟩
  rintro s j2 h' ⟨hh, i, rfl, hi', hpre⟩; subst h'
  refine ld0 (br_of (fun hlt => ?_) fun hlt => ?_)
  · have hlt : (i : Int) < ((blocks c).length : Int) := of_decide_eq_true hlt
    have hiL : i < (blocks c).length := by omega
    have hget : (blocks c)[i]? = some (blocks c)[i] := List.getElem?_eq_getElem hiL
    obtain ⟨e, he⟩ := Option.isSome_iff_exists.1 ((a.inv.mem _).1 ((mem_blocks a.inv _).1 (List.getElem_mem hiL)))
    obtain ⟨g, o, e1, _, hc⟩ := er2 i _ (blocks_ev hget he)
    refine ld0 ?_
    subst e1
    refine ptr_of ⟨⟨(by first | omega | (dsimp only; omega) | (simp only []; omega)), rfl⟩, ?_⟩
    rw [Int.toNat_natCast, add_mk, add_mk, Nat.add_assoc]
    refine ld_of (c := .int .i64) ((blocks c)[i] : Int) (hc 0 (by decide)) (br_of (fun hl2 => ⟨⟨rfl, i + 1, (by first | (rw [wr64 (by omega) (by omega)]; omega) | (simp only [IntKind.wrap_i64]; omega)), hiL, fun m hm => ?_⟩, (by dsimp only; first | (rw [wr64 (by omega) (by omega)]; omega) | (rw [wr64 (by omega) (by omega), wr64 (by omega) (by omega)]; omega) | (simp only [IntKind.wrap_i64]; omega))⟩) fun hl2 => ?_)
    · have hl2 : ((blocks c)[i] : Int) < (n : Int) := of_decide_eq_true hl2
      rw [← List.take_append_getElem hiL, List.mem_append, List.mem_singleton] at hm
      rcases hm with hm | rfl
      · exact hpre m hm
      · omega
    · have hl2 : ¬ ((blocks c)[i] : Int) < (n : Int) := of_decide_eq_false hl2
      exact tailP_ok a (ad := ad) (di := di) hE (by omega) hi' hpre (fun _ => by omega) hsS hsn hx2 u2 x2 (K := fun v h' => v = .bool true ∧ RActed k t h q S ⟨upL c.B 0 (n :: c.B 0), setE c.E n (some (ad, di))⟩ h') fun h' r => ⟨rfl, r⟩
  · have hlt : ¬ (i : Int) < ((blocks c).length : Int) := of_decide_eq_false hlt
    exact tailP_ok a (ad := ad) (di := di) hE (by omega) hi' hpre (fun _ => by omega) hsS hsn hx2 u2 x2 (K := fun v h' => v = .bool true ∧ RActed k t h q S ⟨upL c.B 0 (n :: c.B 0), setE c.E n (some (ad, di))⟩ h') fun h' r => ⟨rfl, r⟩
end
end Go.Proofs.YtfanjfbenhocnaaGreatDoor.Ca
