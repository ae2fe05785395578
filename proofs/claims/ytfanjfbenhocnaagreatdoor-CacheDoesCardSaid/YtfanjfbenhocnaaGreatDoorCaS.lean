/-
  The contracts of reference 10: Put, Drop, Dirty, Tables, Clean, New.
-/
import Derived.Test.YtfanjfbenhocnaaGreatDoorCaR
namespace Go.Proofs.YtfanjfbenhocnaaGreatDoor.Ca
open Go.Pl Go.Pl.Lru Go.Pl.Ix Go.Proofs.YtfanjfbenhocnaaGreatDoor.W Go.Proofs.YtfanjfbenhocnaaGreatDoor.Lru Go.Proofs.YtfanjfbenhocnaaGreatDoor.IxS
open Go.Proofs.YtfanjfbenhocnaaGreatDoor.R8M (RKL ins8L tou8L rem8L vic8L in8L new8_ok)
theorem sub_len : ∀ (n : Nat) (l : List Nat), (∀ m, m < n → m ∈ l) → n ≤ l.length
  | 0, _, _ => Nat.zero_le _
  | n + 1, l, h => by
    have hn : n ∈ l := h n (by omega)
    have := sub_len n (l.erase n) fun m hm => (List.mem_erase_of_ne (by omega)).2 (h m (by omega))
    rw [List.length_erase_of_mem hn] at this
    have : 0 < l.length := List.length_pos_of_mem hn
    omega
theorem encs_take : ∀ (L : List En) (i : Nat), encs (L.take i) = (encs L).take (i * 3)
  | [], i => by simp [encs]
  | y :: L, 0 => by simp [encs]
  | y :: L, i + 1 => by
    have e1 : encs (y :: L) = entV y.1 y.2 ++ encs L := rfl
    have e2 : encs ((y :: L).take (i + 1)) = entV y.1 y.2 ++ encs (L.take i) := rfl
    rw [e1, e2, encs_take L i, List.take_append, List.take_of_length_le (l := entV y.1 y.2) (show 3 ≤ (i + 1) * 3 by omega)]
    congr 2
    show _ = (i + 1) * 3 - 3
    omega
theorem encs_drop : ∀ (L : List En) (i : Nat), encs (L.drop i) = (encs L).drop (i * 3)
  | [], i => by simp [encs]
  | y :: L, 0 => by simp
  | y :: L, i + 1 => by
    have e1 : encs (y :: L) = entV y.1 y.2 ++ encs L := rfl
    rw [e1, List.drop_succ_cons, encs_drop L i, List.drop_append, List.drop_of_length_le (l := entV y.1 y.2) (show 3 ≤ (i + 1) * 3 by omega), List.nil_append]
    congr 1
    show _ = (i + 1) * 3 - 3
    omega
section
variable {k q kq c0 c1 S : Nat} {t t' : Tags} {h h' : Heap} {a0 a1 : Option Addr} {c : Cm} {ρ : Nat → Nat} {T : TypeId}
/-- Behind an act that made both rows anew. -/
theorem RH.renew (a : RH k t h q kq a0 c0 a1 c1 S c ρ T) {h2 h3 h4 h5 h6 : Heap} {c' : Cm} {ρ' : Nat → Nat} {Ls : Nat → List Nat} {a0' a1' : Option Addr} {c0' c1' n' : Nat} (u2 : Upd kq h h2) (x2 : RKL (fun g => (g < h.size ∧ t g = (k, 4)) ∨ (h.size ≤ g ∧ g < h2.size)) h2 kq Ls S) (hLs : Same2 Ls (mapL ρ' c'.B))
    (inv : Inv S c') (inj : InjOn ρ' c'.B) (lt : ∀ n, n ∈ que c'.B → ρ' n < S) (hn' : n' = (blocks c').length)
    (n3 : New h2 h3) (r0 : RowS h3 TR 3 a0' n' c0' (encs (allC c'))) (w0 : blocks c' ≠ [] → OwnH h3 0 TR 3 a0' n' c0' (encs (allC c'))) (l0 : ∀ g, blkOf a0' = some g → h2.size ≤ g ∧ g < h3.size) (o4 : Only q h3 h4)
    (n5 : New h4 h5) (r1 : RowS h5 TI 1 a1' n' c1' (nV ((blocks c').map ρ'))) (l1 : ∀ g, blkOf a1' = some g → h4.size ≤ g ∧ g < h5.size) (o6 : Only q h5 h6) (b6 : Blk h6 q #[.slice a0' n' c0', .slice a1' n' c1', ptr kq, .int .i64 S] T) : RActed k t h q S c' h6 := by
  subst hn'
  have hq := a.blk.lt
  have hkq := a.rk.lt
  have s2 := u2.size
  have s3 := n3.size
  have s4 := o4.size
  have s5 := n5.size
  have s6 := o6.size
  let t' : Tags := fun b => if b < h.size then t b else if some b = blkOf a0' then (k, 2) else if some b = blkOf a1' then (k, 3) else (k, 4)
  have tlt : ∀ {b}, b < h.size → t' b = t b := fun hb => if_pos hb
  have kk : ∀ b, b < h2.size → b ≠ q → h6[b]? = h2[b]? := fun b hb hne => by rw [o6.same b hne, n5.same b (by omega), o4.same b hne, n3.same b hb]
  refine ⟨t', ⟨kq, a0', c0', a1', c1', ρ', T, ⟨a.own, b6, r0.keep (by omega) fun g hg hl => ?_, fun hne => (w0 hne).keep fun g _ _ hb hg => ?_, r1.keep (by omega) fun g hg hl => ?_, ?_, ?_, ?_, fun g hg => ⟨by have := l0 g hg; omega, ?_⟩, fun g hg => ⟨by have := l1 g hg; omega, ?_⟩, inv, inj, lt⟩⟩, ⟨by omega, fun b hb => tlt hb, fun b hb hk => ?_⟩⟩
  · have := l0 g hg
    rw [o6.same g (by omega), n5.same g (by omega), o4.same g (by omega)]
  · have := l0 g hg
    rw [o6.same g (by omega), n5.same g (by omega), o4.same g (by omega)]
  · have := l1 g hg
    rw [o6.same g (by omega)]
  · have x3 : RKL (fun g => (g < h.size ∧ t g = (k, 4)) ∨ (h.size ≤ g ∧ g < h2.size)) h2 kq (mapL ρ' c'.B) S := by
      show R8P.RK _ _ _ (nI (mapL ρ' c'.B 0)) (nI (mapL ρ' c'.B 1)) _
      rw [← hLs 0 (by decide), ← hLs 1 (by decide)]; exact x2
    refine (x3.same (h' := h6) (by omega) (kk kq (by omega) (tag_ne a.tk a.tq (by decide))) fun g hg hl => kk g hl ?_).mono fun g hg => ?_
    · rcases hg with ⟨_, h2⟩ | ⟨h1, _⟩
      · exact tag_ne h2 a.tq (by decide)
      · omega
    · rcases hg with ⟨h1, h2⟩ | ⟨h1, h2⟩
      · exact ⟨by omega, by rw [tlt h1]; exact h2⟩
      · refine ⟨by omega, ?_⟩
        show (if g < h.size then t g else if some g = blkOf a0' then (k, 2) else if some g = blkOf a1' then (k, 3) else (k, 4)) = (k, 4)
        rw [if_neg (by omega), if_neg (fun e => by have := l0 g e.symm; omega), if_neg (fun e => by have := l1 g e.symm; omega)]
  · rw [tlt hq]; exact a.tq
  · rw [tlt hkq]; exact a.tk
  · have := l0 g hg
    show (if g < h.size then t g else if some g = blkOf a0' then (k, 2) else if some g = blkOf a1' then (k, 3) else (k, 4)) = (k, 2)
    rw [if_neg (by omega), if_pos hg.symm]
  · have := l1 g hg
    show (if g < h.size then t g else if some g = blkOf a0' then (k, 2) else if some g = blkOf a1' then (k, 3) else (k, 4)) = (k, 3)
    rw [if_neg (by omega), if_neg (fun e => by have := l0 g e.symm; omega), if_pos hg.symm]
  · rw [kk b (by omega) (fun e => hk (by rw [e, a.tq])), u2.same b hb (fun e => hk (by rw [e, a.tk]))]
theorem rdrop_ok (x : Int) (a : RRep k t h q S c) :
    CallsH Tryz.prog 34 [ptr q, .int .i64 x] h fun v h' => v = .bool (dropC c x).1 ∧ RActed k t h q S (dropC c x).2 h' := by
  have a' := a
  obtain ⟨kq, a0, c0, a1, c1, ρ, T, a⟩ := a
  refine fun_ok hm' Tryz.func34 (by kernel_rfl) (F34_eq _ _ _ h) ?_
  unfold F34
  refine call_of (find_ok x a) ?_
  rintro v h' ⟨hh, ⟨h0, rfl⟩ | ⟨i, n, e, rfl, h64, hq, hi, he, ha, rfl⟩⟩ <;> subst h'
  · have e1 : dropC c x = (false, c) := by unfold dropC; rw [h0]
    rw [e1]
    exact ⟨(-1 : Int), rfl, br_t rfl ⟨rfl, t, a', Fr.refl _ _ _⟩⟩
  have hiL := (List.getElem?_eq_some_iff.1 hi).1
  have hbl := a.bl
  have eg : dropC c (n : Int) = (true, ⟨del c.B n, setE c.E n none⟩) := by unfold dropC; rw [ha]; simp
  rw [eg]
  obtain ⟨hs1, hs2⟩ := slots_get (ρ := ρ) hi
  have ew : IntKind.wrap .i64 ((i : Int) + 1) = ((i + 1 : Nat) : Int) := (by first | (rw [wr64 (by omega) (by omega)]; omega) | (simp only [IntKind.wrap_i64]; omega))
  refine ⟨(i : Int), rfl, br_f (decide_eq_false (by omega)) (ld_of (c := .ptr) (some ⟨kq, 0, none⟩) a.k2 (ld_of (c := .slice) (a1, (blocks c).length, c1) a.k1 (ix_ld a.slot hs1 hiL ?_)))⟩
  rw [hs2]
  refine call_of (rem8L (ρ n : Int) a.ql a.rk) ?_
  rintro v h2 ⟨rfl, x2, u2⟩
  rw [if_pos (map_in hq), Int.toNat_natCast] at x2
  rw [ew]
  have q2 : Blk h2 q _ T := a.blk.upd u2 (tag_ne a.tq a.tk (by decide))
  have r02 : RowS h2 TR 3 a0 (blocks c).length c0 (encs (allC c)) := a.row0.keep u2.size fun g hg hl => u2.same g hl (tag_ne (a.t0 g hg).2 a.tk (by decide))
  have r12 : RowS h2 TI 1 a1 (blocks c).length c1 (nV ((blocks c).map ρ)) := a.row1.keep u2.size fun g hg hl => u2.same g hl (tag_ne (a.t1 g hg).2 a.tk (by decide))
  have ld0 : ∀ {F : Option Addr × Nat × Nat → Prop}, F (a0, (blocks c).length, c0) → ldW .slice (Addr.add ⟨q, 0, none⟩ 0) F h2 := fun hF => ld_of (c := .slice) (a0, (blocks c).length, c0) (by rw [add_mk, cellH_blk q2]; rfl) hF
  have hc0 := r02.le
  have hc1 := r12.le
  refine ⟨_, rfl, ld0 ⟨⟨by omega, by omega, (by first | omega | (dsimp only; omega) | (simp only []; omega)), (by first | omega | (dsimp only; omega) | (simp only []; omega))⟩, ld0 ⟨⟨by omega, (by first | omega | (dsimp only; omega) | (simp only []; omega)), (by first | omega | (dsimp only; omega) | (simp only []; omega)), (by first | omega | (dsimp only; omega) | (simp only []; omega))⟩, ?_⟩⟩⟩
  rw [add_mk, add_mk, Int.toNat_natCast, Int.toNat_natCast, Int.toNat_natCast, Int.toNat_natCast]
  have sr := Src.row r02 (encs_one _)
  have hz : i - Int.toNat 0 = i := by rw [show Int.toNat 0 = 0 from rfl]; omega
  rw [hz]
  refine cat2_ok apR (St := fun h22 => cellH h22 ⟨q, 0 + 0, none⟩ = some (.slice a0 (blocks c).length c0)) (fun h' n' => by rw [cellH_blk (q2.new n')]; rfl) (sr.take i c0 (by omega)) (sr.drop (i + 1) c0 (by omega) hc0) (by decide) (by omega) (by decide) fun a0' c0' h3 r3 n3 l3 w3 => ?_
  have q3 := q2.new n3
  refine st_blk q3 (by simp) fun h4 q4 o4 => ?_
  have q4 : Blk h4 q #[.slice a0' (i + ((blocks c).length - (i + 1))) c0', .slice a1 (blocks c).length c1, ptr kq, .int .i64 S] T := q4
  have r14 : RowS h4 TI 1 a1 (blocks c).length c1 (nV ((blocks c).map ρ)) := (r12.new n3).keep (Nat.le_of_eq o4.size.symm) fun g hg _ => o4.same g (tag_ne (a.t1 g hg).2 a.tq (by decide))
  have ld1 : ∀ {F : Option Addr × Nat × Nat → Prop}, F (a1, (blocks c).length, c1) → ldW .slice (Addr.add ⟨q, 0, none⟩ 1) F h4 := fun hF => ld_of (c := .slice) (a1, (blocks c).length, c1) (by rw [add_mk, cellH_blk q4]; rfl) hF
  refine ld1 ⟨⟨by omega, by omega, (by first | omega | (dsimp only; omega) | (simp only []; omega)), (by first | omega | (dsimp only; omega) | (simp only []; omega))⟩, ld1 ⟨⟨by omega, (by first | omega | (dsimp only; omega) | (simp only []; omega)), (by first | omega | (dsimp only; omega) | (simp only []; omega)), (by first | omega | (dsimp only; omega) | (simp only []; omega))⟩, ?_⟩⟩
  dsimp only
  rw [Int.toNat_natCast, Int.toNat_natCast, Int.toNat_natCast, Int.toNat_natCast, hz]
  have sr1 := Src.row r14 (nV_one _)
  refine cat2_ok apF (St := fun h22 => cellH h22 ⟨q, 0 + 1, none⟩ = some (.slice a1 (blocks c).length c1)) (fun h' n' => by rw [cellH_blk (q4.new n')]; rfl) (sr1.take i c1 (by omega)) (sr1.drop (i + 1) c1 (by omega) hc1) (by decide) (by omega) (by decide) fun a1' c1' h5 r5 n5 l5 _ => ?_
  refine st_blk (q4.new n5) (by simp) fun h6 q6 o6 => ⟨rfl, ?_⟩
  have hal := all_drop (B' := del c.B n) hi
  have hbd := blocks_drop (B' := del c.B n) hi
  have hAl := all_len c
  have e0 : (encs (allC c)).take (i * 3) ++ (encs (allC c)).drop ((i + 1) * 3) = encs (allC ⟨del c.B n, setE c.E n none⟩) := by
    rw [hal, encs_cat, ← encs_take, ← encs_drop]
  have e1 : (nV ((blocks c).map ρ)).take (i * 1) ++ (nV ((blocks c).map ρ)).drop ((i + 1) * 1) = nV ((blocks ⟨del c.B n, setE c.E n none⟩).map ρ) := by
    rw [hbd, Nat.mul_one, Nat.mul_one]
    simp [List.map_take, List.map_drop]
  rw [e0] at r3 w3
  rw [e1] at r5
  have hm : ∀ m, m ∈ que (del c.B n) ↔ m ∈ que c.B ∧ m ≠ n := fun m => by rw [que_del, List.mem_filter]; simp
  have hinv : Inv S ⟨del c.B n, setE c.E n none⟩ := by
    have := a.inv.drop (n : Int)
    rw [eg] at this; exact this
  have hn' : i + ((blocks c).length - (i + 1)) = (blocks ⟨del c.B n, setE c.E n none⟩).length := by rw [hbd, List.length_append, List.length_take, List.length_drop]; omega
  have w3 := fun (hne : blocks ⟨del c.B n, setE c.E n none⟩ ≠ []) => w3 (by rw [hn']; exact List.length_pos_iff.2 hne)
  exact a.renew (c' := ⟨del c.B n, setE c.E n none⟩) (ρ' := ρ) u2 x2 (del_map a.inj hq) hinv (fun x hx y hy => a.inj x ((hm x).1 hx).1 y ((hm y).1 hy).1) (fun m h => a.lt m ((hm m).1 h).1) hn' n3 r3 w3 l3 o4 n5 r5 l5 o6 q6
end
end Go.Proofs.YtfanjfbenhocnaaGreatDoor.Ca
