/-
  Texts of this claim, one behind the other: ZnsR, WR15, R15, R15B, WR3, Same3, WL15W, R15C, L15W, BsT, ZnsM, WL15R, L15R.
-/
import Derived.Test.YthimfpkkdhpceaaGreatDoorP4
import Derived.Test.YthimfpkkdhpceaaGreatDoorProg
/-
  The contracts of the reference of zns.
-/
namespace Go.Proofs.YthimfpkkdhpceaaGreatDoor.ZnsR
open Go.Pl Go.Proofs.YthimfpkkdhpceaaGreatDoor.W Go.Proofs.YthimfpkkdhpceaaGreatDoor.Byts Go.Proofs.YthimfpkkdhpceaaGreatDoor.As Go.Proofs.YthimfpkkdhpceaaGreatDoor.Upto Go.Proofs.YthimfpkkdhpceaaGreatDoor.Zns
abbrev RD := DR LoR
abbrev RRep := DRep LoR
abbrev ptr (b : Nat) : Value := .pointer (some ⟨b, 0, none⟩)
def Acted (k : Nat) (t : Tags) (h : Heap) (b : Nat) (D' : Dev) (h' : Heap) : Prop := ∃ t', RRep k t' h' b D' ∧ Fr (fun p => p.1 ≠ k) t h t' h'
theorem is_ok {k b : Nat} {t : Tags} {D : Dev} (n : Int) (h : Heap) (r : RRep k t h b D) : CallsH Tryz.prog 86 [ptr b, .int .i64 n] h fun v h' => v = .bool (D.there n) ∧ h' = h := by
  refine fun_ok hm' Tryz.func86 (by kernel_rfl) (F86_eq _ _ _ h) ?_
  unfold F86
  obtain ⟨za, c, arr, r⟩ := r
  refine br_of (fun h0 => ld_of (c := .slice) (some ⟨za, 0, none⟩, D.zs.length, c) r.cz ⟨?_, rfl⟩) fun h0 => ⟨?_, rfl⟩
  · have h0 := of_decide_eq_true h0
    unfold Dev.there; congr 1; simp; omega
  · have h0 := of_decide_eq_false h0
    unfold Dev.there; congr 1; symm; simp; omega
/-- The cells of a zone that is there. -/
theorem RD.at0 {k b za c z : Nat} {t : Tags} {h : Heap} {arr : Array Value} {D : Dev} (r : RD k t h b za c arr D) (hz : z < D.zs.length) : ∃ a d, PRow k z t h a d D.zs[z].pages ∧
    cellH h (((⟨za, 0, none⟩ : Addr).add (Int.toNat (z : Int) * 3)).add 0) = some (.slice a D.zs[z].pages.length d) ∧ cellH h (((⟨za, 0, none⟩ : Addr).add (Int.toNat (z : Int) * 3)).add 1) = some (.int .i64 (D.zs[z].sure : Int)) ∧ cellH h (((⟨za, 0, none⟩ : Addr).add (Int.toNat (z : Int) * 3)).add 2) = some (.bool D.zs[z].fin) ∧
    arr[z * 3]? = some (.slice a D.zs[z].pages.length d) ∧ arr[z * 3 + 1]? = some (.int .i64 (D.zs[z].sure : Int)) ∧ arr[z * 3 + 2]? = some (.bool D.zs[z].fin) := by
  obtain ⟨a, d, hp, c0, c1, c2⟩ := r.zR hz
  refine ⟨a, d, hp, ?_, ?_, ?_, c0, c1, c2⟩
  · rw [add_mk, add_mk, Int.toNat_natCast]; exact r.cell (j := 0) c0 _ (by omega)
  · rw [add_mk, add_mk, Int.toNat_natCast]; exact r.cell c1 _ (by omega)
  · rw [add_mk, add_mk, Int.toNat_natCast]; exact r.cell c2 _ (by omega)
theorem point_ok {k b : Nat} {t : Tags} {D : Dev} (n : Int) (h : Heap) (r : RRep k t h b D) : CallsH Tryz.prog 47 [ptr b, .int .i64 n] h fun v h' => v = .int .i64 (D.point n : Int) ∧ h' = h := by
  refine fun_ok hm' Tryz.func47 (by kernel_rfl) (F47_eq _ _ _ h) ?_
  unfold F47
  refine call_of (is_ok n h r) ?_
  rintro v h' ⟨rfl, hh⟩; subst h'
  refine ⟨D.there n, rfl, ?_⟩
  cases ht : D.there n with
  | false => exact br_t rfl ⟨by unfold Dev.point; rw [at_none ht]; rfl, rfl⟩
  | true =>
    obtain ⟨z, rfl, hz⟩ := there_nat ht
    obtain ⟨za, c, arr, r⟩ := r
    obtain ⟨a, d, hp, e0, e1, e2, _⟩ := RD.at0 r hz
    exact br_f rfl (ld_of (c := .slice) (some ⟨za, 0, none⟩, D.zs.length, c) r.cz (ptr_of (ix_of hz (ld_of (c := .slice) (a, D.zs[z].pages.length, d) e0 ⟨by unfold Dev.point; rw [at_of hz], rfl⟩))))
theorem sure_ok {k b : Nat} {t : Tags} {D : Dev} (n : Int) (h : Heap) (r : RRep k t h b D) : CallsH Tryz.prog 49 [ptr b, .int .i64 n] h fun v h' => v = .int .i64 (D.sure n : Int) ∧ h' = h := by
  refine fun_ok hm' Tryz.func49 (by kernel_rfl) (F49_eq _ _ _ h) ?_
  unfold F49
  refine call_of (is_ok n h r) ?_
  rintro v h' ⟨rfl, hh⟩; subst h'
  refine ⟨D.there n, rfl, ?_⟩
  cases ht : D.there n with
  | false => exact br_t rfl ⟨by unfold Dev.sure; rw [at_none ht]; rfl, rfl⟩
  | true =>
    obtain ⟨z, rfl, hz⟩ := there_nat ht
    obtain ⟨za, c, arr, r⟩ := r
    obtain ⟨a, d, hp, e0, e1, e2, _⟩ := RD.at0 r hz
    exact br_f rfl (ld_of (c := .slice) (some ⟨za, 0, none⟩, D.zs.length, c) r.cz (ptr_of (ix_of hz (ld_of (c := .int .i64) (D.zs[z].sure : Int) e1 ⟨by unfold Dev.sure; rw [at_of hz], rfl⟩))))
theorem state_ok {k b : Nat} {t : Tags} {D : Dev} (n : Int) (h : Heap) (r : RRep k t h b D) : CallsH Tryz.prog 90 [ptr b, .int .i64 n] h fun v h' => v = .int .i64 (D.state n) ∧ h' = h := by
  refine fun_ok hm' Tryz.func90 (by kernel_rfl) (F90_eq _ _ _ h) ?_
  unfold F90
  refine call_of (point_ok n h r) ?_
  rintro v h' ⟨rfl, hh⟩; subst h'
  refine ⟨(D.point n : Int), rfl, br_of (fun h0 => ⟨?_, rfl⟩) fun h0 => ?_⟩
  · have h0 : (D.at_ n).pages.length = 0 := by simp only [beq_iff_eq] at h0; unfold Dev.point at h0; omega
    unfold Dev.state; rw [if_pos h0]
  have h0 : ¬ (D.at_ n).pages.length = 0 := by simp only [beq_eq_false_iff_ne, ne_eq] at h0; unfold Dev.point at h0; omega
  have ht : D.there n = true := by
    cases ht : D.there n with
    | true => rfl
    | false => rw [at_none ht] at h0; exact (h0 rfl).elim
  have r0 := r
  obtain ⟨z, rfl, hz⟩ := there_nat ht
  obtain ⟨za, c, arr, r⟩ := r
  obtain ⟨a, d, hp, e0, e1, e2, _⟩ := RD.at0 r hz
  have ea := at_of hz
  refine ld_of (c := .slice) (some ⟨za, 0, none⟩, D.zs.length, c) r.cz (ptr_of (ix_of hz (ld_of (c := .bool) D.zs[z].fin e2 (br_of (fun hf => ⟨?_, rfl⟩) fun hf => ld_of (c := .int .i64) (D.P : Int) r.cP (call_of (point_ok (z : Int) h r0) ?_)))))
  · unfold Dev.state; rw [if_neg h0, if_pos (.inl (by rw [ea]; exact hf))]
  rintro v h' ⟨rfl, hh⟩; subst h'
  refine ⟨(D.point (z : Int) : Int), rfl, r.cP, br_of (fun hp => ⟨?_, rfl⟩) fun hp => ⟨?_, rfl⟩⟩
  · have hp : (D.at_ (z : Int)).pages.length = D.P := by simp only [beq_iff_eq] at hp; unfold Dev.point at hp; omega
    unfold Dev.state; rw [if_neg h0, if_pos (.inr hp)]
  · have hp : ¬ (D.at_ (z : Int)).pages.length = D.P := by simp only [beq_eq_false_iff_ne, ne_eq] at hp; unfold Dev.point at hp; omega
    unfold Dev.state; rw [if_neg h0, if_neg (by rw [ea] at hp ⊢; simp [hf, hp])]
theorem may_ok {k b : Nat} {t : Tags} {D : Dev} (o : DevOk D) (e : Int) (h : Heap) (r : RRep k t h b D) :
    CallsH Tryz.prog 87 [ptr b, .int .i64 e] h fun v h' => v = .int .i64 (D.doing e).2 ∧ RRep k t h' b (D.doing e).1 ∧ Upd b h h' := by
  refine fun_ok hm' Tryz.func87 (by kernel_rfl) (F87_eq _ _ _ h) ?_
  unfold F87
  obtain ⟨za, c, arr, r⟩ := r
  have ho := o.fuse
  refine ld_of (c := .bool) D.down r.cd (br_of (fun hd => ?_) fun hd => br_of (fun he => ?_) fun he => ld_of (c := .int .i64) D.fuse r.cf (br_of (fun hf => ?_) fun hf => ?_))
  · have e1 : D.doing e = (D, 7) := by unfold Dev.doing; rw [if_pos hd]
    rw [e1]; exact ⟨rfl, ⟨za, c, arr, r⟩, Upd.refl _ _⟩
  · have he : e ≠ 0 := by simpa using he
    have e1 : D.doing e = (D, e) := by unfold Dev.doing; rw [if_neg (by simp [hd]), if_pos he]
    rw [e1]; exact ⟨rfl, ⟨za, c, arr, r⟩, Upd.refl _ _⟩
  · have he : e = 0 := by simpa using he
    have hf : D.fuse = 0 := by simpa using hf
    have e1 : D.doing e = ({ D with down := true }, 7) := by unfold Dev.doing; rw [if_neg (by simp [hd]), if_neg (by simp [he]), if_pos hf]
    rw [e1, add_mk]
    exact st_blk r.blk (show 0 + 4 < 5 by omega) fun h1 b1 o1 => ⟨rfl, ⟨za, c, arr, r.setD rfl b1 o1.upd⟩, o1.upd⟩
  · have he : e = 0 := by simpa using he
    have hf : D.fuse ≠ 0 := by simpa using hf
    have e1 : D.doing e = ({ D with fuse := max (D.fuse - 1) (-1), ops := IntKind.wrap .i64 (D.ops + 1) }, 0) := by unfold Dev.doing; rw [if_neg (by simp [hd]), if_neg (by simp [he]), if_neg hf]
    rw [e1]
    refine cut_q (ts := []) (fun _ h' => RD k t h' b za c arr { D with fuse := max (D.fuse - 1) (-1) } ∧ Upd b h h') ?_ ?_
    · rintro _ h1 ⟨r1, u1⟩ _
      refine ld_of (c := .int .i64) D.ops r1.co ?_
      rw [add_mk]
      exact st_blk r1.blk (show 0 + 3 < 5 by omega) fun h2 b2 o2 => ⟨rfl, ⟨za, c, arr, r1.setD rfl b2 o2.upd⟩, u1.trans o2.upd⟩
    · intro K hK
      refine ld_of (c := .int .i64) D.fuse r.cf (br_of (fun hp => ld_of (c := .int .i64) D.fuse r.cf ?_) fun hp => hK () _ ⟨?_, Upd.refl _ _⟩)
      · have hp := of_decide_eq_true hp
        rw [wr64 (by omega) (by omega), add_mk]
        refine st_blk r.blk (show 0 + 2 < 5 by omega) fun h1 b1 o1 => hK () _ ⟨r.setD rfl ?_ o1.upd, o1.upd⟩
        have : max (D.fuse - 1) (-1) = D.fuse - 1 := by omega
        rw [this]; exact b1
      · have hp := of_decide_eq_false hp
        have : max (D.fuse - 1) (-1) = D.fuse := by omega
        rw [this]; exact r
theorem fuse_ok {k b : Nat} {t : Tags} {D : Dev} (n : Int) (h : Heap) (r : RRep k t h b D) : CallsH Tryz.prog 11 [ptr b, .int .i64 n] h fun v h' => v = .tuple #[] ∧ RRep k t h' b (D.setFuse n) ∧ Upd b h h' := by
  refine fun_ok hm' Tryz.func11 (by kernel_rfl) (F11_eq _ _ _ h) ?_
  unfold F11
  obtain ⟨za, c, arr, r⟩ := r
  rw [add_mk]
  refine st_blk r.blk (show 0 + 2 < 5 by omega) fun h1 b1 o1 => ?_
  have r1 : RD k t h1 b za c arr { D with fuse := n } := r.setD rfl b1 o1.upd
  refine br_of (fun hn => ?_) fun hn => ⟨rfl, ⟨za, c, arr, ?_⟩, o1.upd⟩
  · have hn := of_decide_eq_true hn
    refine st_blk r1.blk (show 0 + 2 < 5 by omega) fun h2 b2 o2 => ⟨rfl, ⟨za, c, arr, ?_⟩, o1.upd.trans o2.upd⟩
    have r2 : RD k t h2 b za c arr { D with fuse := -1 } := r1.setD rfl b2 o2.upd
    have : max n (-1) = -1 := by omega
    unfold Dev.setFuse; rw [this]; exact r2
  · have hn := of_decide_eq_false hn
    have : max n (-1) = n := by omega
    unfold Dev.setFuse; rw [this]; exact r1
/-- The pages of a zone are other ones: a new row is laid. -/
theorem RD.pages {k b za c z : Nat} {t t2 : Tags} {h h2 h3 : Heap} {arr : Array Value} {D : Dev} (r : RD k t h b za c arr D) (hz : z < D.zs.length) (f : Fr (fun q => q ≠ (k, 2 + z)) t h t2 h2) {a2 : Option Addr} {c2 : Nat} {pages : List (List Int)} (hp : PRow k z t2 h2 a2 c2 pages)
    (hb : Blk h3 za (arr.setIfInBounds (z * 3) (.slice a2 pages.length c2)) 80) (o : Only za h2 h3) :
    RD k t2 h3 b za c (arr.setIfInBounds (z * 3) (.slice a2 pages.length c2)) { D with zs := D.zs.set z { D.zs[z] with pages := pages } } ∧ Fr (fun p => p.1 ≠ k) t h t2 h3 := by
  obtain ⟨a, d, _, c0, c1, c2'⟩ := r.zR hz
  have hk := r.own
  have hsz := r.size; have hle := r.le
  have hS : ∀ q : Nat × Nat, q.1 = 0 → q ≠ (k, 1) := fun q hq e => by subst e; exact hk hq
  have hS2 : ∀ q : Nat × Nat, q.1 = 0 → q ≠ (k, 2 + z) := fun q hq e => by subst e; exact hk hq
  have f2 : Fr (fun q => q ≠ (k, 1)) t2 h2 t2 h3 := Fr.upd o.upd fun hn => hn (by rw [f.tags za r.zblk.lt]; exact r.tagZ)
  have f3 : Fr (fun q => q ≠ (k, 1) ∧ q ≠ (k, 2 + z)) t h t2 h3 := (f.mono fun _ hq => hq.2).trans (f2.mono fun _ hq => hq.1)
  obtain ⟨q1, q2, q3, q4⟩ := set3 (arr := arr) (z := z) (o := 0) (n := z * 3) (v := .slice a2 pages.length c2) (by omega) (by omega) rfl
  refine ⟨r.put (Z := { D.zs[z] with pages := pages }) f3 (fun q hq => ⟨hS q hq, hS2 q hq⟩) ⟨tagne (by omega), tagne (by omega)⟩ (fun j hj => ⟨tagne (by omega), tagne (by omega)⟩) hb q1 q2 ⟨a2, c2, fun j hj => ?_, hp.fr f2 hS (tagne (by omega))⟩, f3.mono fun q hq => ⟨fun e => hq (by rw [e]), fun e => hq (by rw [e])⟩⟩
  match j, hj with
  | 0, _ => exact q3
  | 1, _ => rw [q4 1 (by omega) (by omega)]; exact c1
  | 2, _ => rw [q4 2 (by omega) (by omega)]; exact c2'
theorem append_ok {k b : Nat} {t : Tags} {D : Dev} (o : DevOk D) (n : Int) (ba : Option Addr) (bc : Nat) (bs : List Int) (h : Heap) (r : RRep k t h b D) (hl : bs.length ≤ 1000) (im : Im .u8 t h ba bs) :
    CallsH Tryz.prog 43 [ptr b, .int .i64 n, .slice ba bs.length bc] h fun v h' => v = .tuple #[.int .i64 ((D.append n bs).2.1), .int .i64 (D.append n bs).2.2] ∧ Acted k t h b (D.append n bs).1 h' := by
  refine fun_ok hm' Tryz.func43 (by kernel_rfl) (F43_eq _ _ _ _ _ _ h) ?_
  unfold F43
  refine cut_q (ts := [.sc (.int .i64)]) (fun (e : Int) h' => e = D.appendE n bs ∧ h' = h) ?_ ?_
  rotate_left
  · intro K hK
    refine cut_q (ts := [.sc .bool]) (fun (s : Bool) h' => s = decide (D.there n = false ∨ bs.length ≠ 33) ∧ h' = h) ?_ ?_
    · rintro s h' ⟨rfl, hh⟩ _; subst h'
      refine br_of (fun hs => hK _ _ ⟨?_, rfl⟩) fun hs => ?_
      · unfold Dev.appendE; rw [if_pos (of_decide_eq_true hs)]
      have hs := of_decide_eq_false hs
      refine call_of (state_ok n h r) ?_
      rintro v h' ⟨rfl, hh⟩; subst h'
      refine ⟨D.state n, rfl, br_of (fun h5 => hK _ _ ⟨?_, rfl⟩) fun h5 => hK _ _ ⟨?_, rfl⟩⟩
      · unfold Dev.appendE; rw [if_neg hs, if_pos (by simpa using h5)]
      · unfold Dev.appendE; rw [if_neg hs, if_neg (by simpa using h5)]
    · intro K2 hK2
      refine call_of (is_ok n h r) ?_
      rintro v h' ⟨rfl, hh⟩; subst h'
      refine ⟨D.there n, rfl, ?_⟩
      cases ht : D.there n with
      | false => exact br_t rfl (hK2 _ _ ⟨by simp [ht], rfl⟩)
      | true =>
        refine br_f rfl (hK2 _ _ ⟨?_, rfl⟩)
        rw [Bool.eq_iff_iff]; simp [ht]; omega
  rintro e h' ⟨he, hh⟩ _; subst h'
  have he : e = D.appendE n bs := he
  subst he
  refine call_of (may_ok o (D.appendE n bs) h r) ?_
  rintro v h1 ⟨rfl, r1, u1⟩
  refine ⟨(D.doing (D.appendE n bs)).2, rfl, br_of (fun h0 => ?_) fun h0 => ?_⟩
  · have h0 : (D.doing (D.appendE n bs)).2 ≠ 0 := by simpa using h0
    have ea : D.append n bs = ((D.doing (D.appendE n bs)).1, 0, (D.doing (D.appendE n bs)).2) := by unfold Dev.append; simp only []; rw [if_pos h0]
    rw [ea]
    obtain ⟨za, c, arr, r⟩ := r
    exact ⟨rfl, t, r1, Fr.upd u1 fun hn => hn (by rw [r.tagB])⟩
  have h0 : (D.doing (D.appendE n bs)).2 = 0 := by simpa using h0
  have hE := (doing_ok h0).1
  have ea : D.append n bs = ((D.doing (D.appendE n bs)).1.setZ n { D.at_ n with pages := (D.at_ n).pages ++ [bs] }, (D.point n : Int), 0) := by
    unfold Dev.append; simp only []; rw [if_neg (by simp [h0])]
  rw [ea]
  have ht : D.there n = true := by
    cases ht : D.there n with
    | true => rfl
    | false => unfold Dev.appendE at hE; rw [if_pos (.inl ht)] at hE; cases hE
  obtain ⟨z, rfl, hz⟩ := there_nat ht
  have f01 : Fr (fun p => p.1 ≠ k) t h t h1 := by obtain ⟨za, c, arr, r⟩ := r; exact Fr.upd u1 fun hn => hn (by rw [r.tagB])
  obtain ⟨za, c, arr, r1⟩ := r1
  have hk := r1.own
  have own0 : ∀ q : Nat × Nat, q.1 = 0 → q.1 ≠ k := fun q hq e => hk (by rw [← e]; exact hq)
  have im1 : Im .u8 t h1 ba bs := im.fr f01 own0
  obtain ⟨E, hEd⟩ : ∃ E, E = (D.doing (D.appendE (z : Int) bs)).1 := ⟨_, rfl⟩
  rw [← hEd] at r1 ⊢
  have ezs : E.zs = D.zs := by rw [hEd, doing_zs]
  have hzE : z < E.zs.length := by rw [ezs]; exact hz
  have eZ : E.zs[z] = D.zs[z] := by simp only [ezs]
  have l16 := o.len hz
  obtain ⟨a, d, hp, e0, e1, e2, _, _, _⟩ := RD.at0 r1 hzE
  rw [eZ] at hp e0
  have hzc : z < (some (⟨za, 0, none⟩ : Addr), E.zs.length, c).2.1 := hzE
  refine cut_q (ts := []) (fun _ h' => ∃ t2 c2 arr2, RD k t2 h' b za c2 arr2 { E with zs := E.zs.set z { E.zs[z] with pages := D.zs[z].pages ++ [bs] } } ∧ Fr (fun p => p.1 ≠ k) t h1 t2 h') ?_ ?_
  · rintro _ h2 ⟨t2, c2, arr2, r2, f2⟩ _
    have hz2 : z < (E.zs.set z { E.zs[z] with pages := D.zs[z].pages ++ [bs] }).length := by simpa using hzE
    obtain ⟨a2, d2, _, e0', _, _, _⟩ := RD.at0 r2 hz2
    simp only [List.getElem_set_self] at e0'
    refine ld_of (c := .slice) (some ⟨za, 0, none⟩, _, c2) r2.cz (ptr_of (ix_of hz2 (ld_of (c := .slice) (a2, (D.zs[z].pages ++ [bs]).length, d2) e0' ⟨?_, t2, ⟨za, c2, arr2, ?_⟩, f01.trans f2⟩)))
    · have hll : (D.zs[z].pages ++ [bs]).length = D.zs[z].pages.length + 1 := by simp
      rw [wr64 (by simp only [hll]; omega) (by simp only [hll]; omega)]
      have : (((D.zs[z].pages ++ [bs]).length : Nat) : Int) - 1 = (D.point (z : Int) : Int) := by unfold Dev.point; rw [at_of hz]; simp
      rw [this]
    · have e : E.setZ (z : Int) { D.at_ (z : Int) with pages := (D.at_ (z : Int)).pages ++ [bs] } = { E with zs := E.zs.set z { E.zs[z] with pages := D.zs[z].pages ++ [bs] } } := by
        rw [at_of hz]; unfold Dev.setZ; rw [Int.toNat_natCast, eZ]
      rw [e]; exact r2
  · intro K hK
    -- what follows the copies of the row and of the bytes
    have last : ∀ (h2 h3 : Heap) (t2 : Tags) (a2 a3 : Option Addr) (c2 c3 : Nat), Fr (fun q => q ≠ (k, 2 + z)) t h1 t2 h2 → PRow k z t2 h2 a2 c2 D.zs[z].pages → New h2 h3 → Im .u8 (lay t2 h2.size (0, 0)) h3 a3 bs → Cp a3 bs.length c3 →
        newW (.cells #[.slice a3 bs.length c3] 68) (fun a32 h33 => apW Tryz.prog #[67, 67] #[.slice a2 D.zs[z].pages.length c2, .slice (some a32) 1 1] (fun b34 n35 c36 h37 =>
          (cellH h37 (Addr.add ⟨b, 0, none⟩ 0) = some (.slice (some ⟨za, 0, none⟩) E.zs.length c) ∧ ptrW (some ⟨za, 0, none⟩) (fun a38 => idxW (z : Int) E.zs.length true (stW (Addr.add (Addr.add a38 (Int.toNat (z : Int) * 3)) 0) (.slice b34 n35 c36) (fun h39 => K () h39) h37)))) h33) h3 := by
      intro h2 h3 t2 a2 a3 c2 c3 f2 hp2 n3 im3 cp3
      have f3 : Fr (fun q => q ≠ (k, 2 + z)) t h1 (lay t2 h2.size (0, 0)) h3 := f2.trans (Fr.lay n3 _)
      have hp3 : PRow k z (lay t2 h2.size (0, 0)) h3 a2 c2 D.zs[z].pages := hp2.fr (S := fun _ => True) (Fr.lay n3 _) (fun _ _ => trivial) trivial
      refine PRow.push hp3 hk im3 cp3 (by omega) fun a4 c4 h4 t4 f4 hp4 => ?_
      have f14 := f3.trans f4
      have bB := f14.blk r1.blk (by rw [r1.tagB]; exact tagne (by omega))
      have bZ := f14.blk r1.zblk (by rw [r1.tagZ]; exact tagne (by omega))
      refine ⟨by rw [add_mk, cellH_blk bB]; rfl, ptr_of (ix_of hzE ?_)⟩
      have hsz := r1.size; have hle := r1.le
      rw [add_mk, add_mk, Int.toNat_natCast, Nat.zero_add, Nat.add_zero]
      have hlen : (D.zs[z].pages ++ [bs]).length = D.zs[z].pages.length + 1 := by simp
      refine st_blk bZ (by omega) fun h5 b5 o5 => ?_
      rw [← hlen] at b5
      obtain ⟨r5, f5⟩ := RD.pages r1 hzE f14 hp4 b5 o5
      exact hK () h5 ⟨t4, c, _, r5, f5⟩
    refine ld_of (c := .slice) (some ⟨za, 0, none⟩, E.zs.length, c) r1.cz (ld_of (c := .slice) (some ⟨za, 0, none⟩, E.zs.length, c) r1.cz (ptr_of (ix_of hzE (ld_of (c := .slice) (a, D.zs[z].pages.length, d) e0 ⟨?_, ?_⟩))))
    · refine new_of fun h2 b2 n2 s2 => ?_
      have keep : ∀ {h' : Heap}, New h1 h' → cellH h' (Addr.add ⟨b, 0, none⟩ 0) = some (.slice (some ⟨za, 0, none⟩) E.zs.length c) := fun n => by rw [add_mk, cellH_blk (r1.blk.new n)]; rfl
      refine ⟨?_, ?_⟩
      · have t2 := lay_ge (t := t) (p := (k, 2 + z)) (Nat.le_refl h1.size)
        have hp2 : PRow k z (lay t h1.size (k, 2 + z)) h2 a d D.zs[z].pages := hp.fr (S := fun _ => True) (Fr.lay n2 _) (fun _ _ => trivial) trivial
        refine hp2.copy (by omega) b2.lt t2 fun a3 c3 h3 hp3 n3 => ⟨keep (n2.trans n3), new_of fun h4 b4 n4 s4 => ?_⟩
        have f3 : Fr (fun q => q ≠ (k, 2 + z)) t h1 (lay (lay t h1.size (k, 2 + z)) h2.size (k, 2 + z)) h3 := (Fr.lay n2 _).trans (Fr.lay n3 _)
        have im4 : Im .u8 (lay (lay t h1.size (k, 2 + z)) h2.size (k, 2 + z)) h4 ba bs := (im1.fr f3 (fun q hq e => by subst e; exact hk hq)).new n4
        have hp4 : PRow k z (lay (lay t h1.size (k, 2 + z)) h2.size (k, 2 + z)) h4 a3 c3 D.zs[z].pages := hp3.fr (S := fun _ => True) (Fr.new0 n4) (fun _ _ => trivial) trivial
        refine bytes_copy rfl im4 hl fun a5 c5 h5 im5 n5 cp5 => ⟨keep (((n2.trans n3).trans n4).trans n5), last h4 h5 _ a3 a5 c3 c5 (f3.trans (Fr.new0 n4)) hp4 n5 im5 cp5⟩
      · refine new_of fun h3 b3 n3 s3 => ?_
        have n13 := n2.trans n3
        have t3 := lay_ge (t := t) (p := (k, 2 + z)) (Nat.le_refl h1.size)
        have hp3 : PRow k z (lay t h1.size (k, 2 + z)) h3 a d D.zs[z].pages := hp.fr (S := fun _ => True) (Fr.lay n13 _) (fun _ _ => trivial) trivial
        refine hp3.copy (by omega) (b2.new n3).lt t3 fun a4 c4 h4 hp4 n4 => ⟨keep (n13.trans n4), ?_⟩
        have f4 : Fr (fun q => q ≠ (k, 2 + z)) t h1 (lay (lay t h1.size (k, 2 + z)) h3.size (k, 2 + z)) h4 := (Fr.lay n13 _).trans (Fr.lay n4 _)
        have im4 := im1.fr f4 (fun q hq e => by subst e; exact hk hq)
        exact bytes_copy rfl im4 hl fun a5 c5 h5 im5 n5 cp5 => ⟨keep ((n13.trans n4).trans n5), last h4 h5 _ a4 a5 c4 c5 f4 hp4 n5 im5 cp5⟩
    · refine new_of fun h2 b2 n2 s2 => new_of fun h3 b3 n3 s3 => ?_
      have keep : ∀ {h' : Heap}, New h1 h' → cellH h' (Addr.add ⟨b, 0, none⟩ 0) = some (.slice (some ⟨za, 0, none⟩) E.zs.length c) := fun n => by rw [add_mk, cellH_blk (r1.blk.new n)]; rfl
      have n13 := n2.trans n3
      have t3 := lay_ge (t := t) (p := (k, 2 + z)) (show h1.size ≤ h2.size by omega)
      have hp3 : PRow k z (lay t h1.size (k, 2 + z)) h3 a d D.zs[z].pages := hp.fr (S := fun _ => True) (Fr.lay n13 _) (fun _ _ => trivial) trivial
      refine hp3.copy (by omega) b3.lt t3 fun a4 c4 h4 hp4 n4 => ⟨keep (n13.trans n4), ?_⟩
      have f4 : Fr (fun q => q ≠ (k, 2 + z)) t h1 (lay (lay t h1.size (k, 2 + z)) h3.size (k, 2 + z)) h4 := (Fr.lay n13 _).trans (Fr.lay n4 _)
      have im4 := im1.fr f4 (fun q hq e => by subst e; exact hk hq)
      exact bytes_copy rfl im4 hl fun a5 c5 h5 im5 n5 cp5 => ⟨keep ((n13.trans n4).trans n5), last h4 h5 _ a4 a5 c4 c5 f4 hp4 n5 im5 cp5⟩
theorem read_ok {k b : Nat} {t : Tags} {D : Dev} (o : DevOk D) (n p : Int) (h : Heap) (r : RRep k t h b D) :
    CallsH Tryz.prog 51 [ptr b, .int .i64 n, .int .i64 p] h fun v h' => ∃ a c, v = .tuple #[.slice a (D.read n p).1.length c, .int .i64 (D.read n p).2] ∧ Got .u8 5 h h' a c (D.read n p).1 := by
  refine fun_ok hm' Tryz.func51 (by kernel_rfl) (F51_eq _ _ _ _ h) ?_
  unfold F51
  have r0 := r
  obtain ⟨za, d, arr, r2⟩ := r0
  refine ld_of (c := .bool) D.down r2.cd (br_of (fun hd => ?_) fun hd => ?_)
  · have e : D.read n p = ([], 7) := by unfold Dev.read; rw [if_pos hd]
    rw [e]; exact ⟨none, 0, rfl, Got.nil _ _ (New.refl h)⟩
  have no1 : (D.there n = false ∨ p < 0 ∨ p ≥ D.P) → D.read n p = ([], 1) := fun hs => by unfold Dev.read; rw [if_neg (by simp [hd]), if_pos hs]
  refine cut_q (ts := []) (fun _ h' => h' = h ∧ ¬ (D.there n = false ∨ p < 0 ∨ p ≥ D.P)) ?_ ?_
  rotate_left
  · intro K hK
    refine call_of (is_ok n h r) ?_
    rintro v h' ⟨rfl, hh⟩; subst h'
    refine ⟨D.there n, rfl, ?_⟩
    cases ht : D.there n with
    | false => rw [no1 (.inl ht)]; exact br_t rfl ⟨none, 0, rfl, Got.nil _ _ (New.refl h)⟩
    | true =>
      refine br_f rfl (br_of (fun h0 => ?_) fun h0 => ld_of (c := .int .i64) (D.P : Int) r2.cP (br_of (fun h1 => ?_) fun h1 => hK () _ ⟨rfl, ?_⟩))
      · rw [no1 (.inr (.inl (of_decide_eq_true h0)))]; exact ⟨none, 0, rfl, Got.nil _ _ (New.refl h)⟩
      · rw [no1 (.inr (.inr (of_decide_eq_true h1)))]; exact ⟨none, 0, rfl, Got.nil _ _ (New.refl h)⟩
      · have h0 := of_decide_eq_false h0; have h1 := of_decide_eq_false h1
        rintro (e | e | e)
        · rw [ht] at e; cases e
        · exact h0 e
        · exact h1 e
  rintro _ h' ⟨hh, hs⟩ _; subst h'
  have e := ZnsP.readE hd hs
  have ht : D.there n = true := by
    cases ht : D.there n with
    | true => rfl
    | false => exact (hs (.inl ht)).elim
  obtain ⟨z, rfl, hz⟩ := there_nat ht
  rw [at_of hz] at e
  obtain ⟨a, c, hp, e0, e1, e2, _⟩ := RD.at0 r2 hz
  refine ld_of (c := .slice) (some ⟨za, 0, none⟩, D.zs.length, d) r2.cz (ptr_of (ix_of hz (ld_of (c := .slice) (a, D.zs[z].pages.length, c) e0 (br_of (fun h0 => ?_) fun h0 => ?_))))
  · rw [e, if_pos (of_decide_eq_true h0)]; exact ⟨none, 0, rfl, Got.nil _ _ (New.refl h)⟩
  have h0 := of_decide_eq_false h0
  rw [if_neg h0] at e
  obtain ⟨i, rfl⟩ := Int.eq_ofNat_of_zero_le (show 0 ≤ p by omega)
  have hi : i < D.zs[z].pages.length := by simp only [] at h0; omega
  rw [Int.toNat_natCast] at e
  have eg : D.zs[z].pages.getD i [] = D.zs[z].pages[i] := by simp [List.getD_eq_getElem?_getD, List.getElem?_eq_getElem hi]
  rw [eg] at e
  obtain ⟨a', c', im, ld⟩ := hp.ld hi
  have hl : D.zs[z].pages[i].length ≤ 1000 := by
    rcases ((o.zone _ (List.getElem_mem hz)).page _ (List.getElem_mem hi)).2 with h33 | h0
    · omega
    · rw [h0]; simp
  refine ld_of (c := .slice) (some ⟨za, 0, none⟩, D.zs.length, d) r2.cz (ptr_of (ix_of hz (ld_of (c := .slice) (a, D.zs[z].pages.length, c) e0 (ld hi (br_of (fun h3 => ?_) fun h3 => ?_)))))
  · rw [e, if_pos (by simp only [beq_iff_eq] at h3; omega)]; exact ⟨none, 0, rfl, Got.nil _ _ (New.refl h)⟩
  rw [e, if_neg (by simp only [beq_eq_false_iff_ne, ne_eq] at h3; omega)]
  refine new_of fun h1 b1 n1 s1 => ?_
  have r3 := r2.new n1
  obtain ⟨a3, c3, hp3, e3, _⟩ := RD.at0 r3 hz
  obtain ⟨a4, c4, im4, ld4⟩ := hp3.ld hi
  refine ld_of (c := .slice) (some ⟨za, 0, none⟩, D.zs.length, d) r3.cz (ptr_of (ix_of hz (ld_of (c := .slice) (a3, D.zs[z].pages.length, c3) e3 (ld4 hi ?_))))
  have gA : Grow h1 (some h.size) h1 5 1 (some ⟨h.size, 0, none⟩) 0 0 (([] : List Int).map (Value.int .u8)) := Grow.start (RowS.blk b1 rfl (Nat.zero_le _))
  refine Grow.ints ap8 gA im4.ar rfl (by omega) (by omega) fun aB cB hB gB => ?_
  rw [List.nil_append] at gB ⊢
  exact ⟨aB, cB, rfl, gB.got n1 (fun b e => by injection e with e; omega)⟩
theorem reset_ok {k b : Nat} {t : Tags} {D : Dev} (o : DevOk D) (n : Int) (h : Heap) (r : RRep k t h b D) :
    CallsH Tryz.prog 41 [ptr b, .int .i64 n] h fun v h' => v = .int .i64 (D.reset n).2 ∧ Acted k t h b (D.reset n).1 h' := by
  refine fun_ok hm' Tryz.func41 (by kernel_rfl) (F41_eq _ _ _ h) ?_
  unfold F41
  refine cut_q (ts := [.sc (.int .i64)]) (fun (e : Int) h' => e = D.resetE n ∧ h' = h) ?_ ?_
  rotate_left
  · intro K hK
    refine call_of (is_ok n h r) ?_
    rintro v h' ⟨rfl, hh⟩; subst h'
    refine ⟨D.there n, rfl, ?_⟩
    cases ht : D.there n with
    | false => exact br_t rfl (hK _ _ ⟨by unfold Dev.resetE; rw [if_pos ht], rfl⟩)
    | true => exact br_f rfl (hK _ _ ⟨by unfold Dev.resetE; rw [if_neg (by simp [ht])], rfl⟩)
  rintro e h' ⟨he, hh⟩ _; subst h'
  have he : e = D.resetE n := he
  subst he
  refine call_of (may_ok o (D.resetE n) h r) ?_
  rintro v h1 ⟨rfl, r1, u1⟩
  have f01 : Fr (fun p => p.1 ≠ k) t h t h1 := by obtain ⟨za, c, arr, r⟩ := r; exact Fr.upd u1 fun hn => hn (by rw [r.tagB])
  refine ⟨(D.doing (D.resetE n)).2, rfl, br_of (fun h0 => ?_) fun h0 => ?_⟩
  · have h0 : (D.doing (D.resetE n)).2 = 0 := by simpa using h0
    have hE := (doing_ok h0).1
    have er : D.reset n = ((D.doing (D.resetE n)).1.setZ n Zn.bare, 0) := by unfold Dev.reset; simp only []; rw [if_neg (by simp [h0])]
    have ht : D.there n = true := by
      cases ht : D.there n with
      | true => rfl
      | false => unfold Dev.resetE at hE; rw [if_pos ht] at hE; cases hE
    obtain ⟨z, rfl, hz⟩ := there_nat ht
    obtain ⟨za, c, arr, r1⟩ := r1
    have hk := r1.own
    have hzE : z < (D.doing (D.resetE (z : Int))).1.zs.length := by rw [doing_zs]; exact hz
    refine ld_of (c := .slice) (some ⟨za, 0, none⟩, _, c) r1.cz (ptr_of (ix_of hzE ?_))
    have hsz := r1.size; have hle := r1.le
    rw [add_mk, Int.toNat_natCast, Nat.zero_add, h0, er]
    refine stL_blk r1.zblk (by simp; omega) fun h2 b3 o3 => ⟨rfl, t, ⟨za, c, setsA arr (z * 3) [.slice none 0 0, .int .i64 0, .bool false], ?_⟩, f01.trans (Fr.upd o3.upd fun hn => hn (by rw [r1.tagZ]))⟩
    have hS : ∀ q : Nat × Nat, q.1 = 0 → q ≠ (k, 1) := fun q hq e => by subst e; exact hk hq
    have f : Fr (fun q => q ≠ (k, 1)) t h1 t h2 := Fr.upd o3.upd fun hn => hn r1.tagZ
    have hin : ∀ j, j < 3 → (setsA arr (z * 3) [Value.slice none 0 0, .int .i64 0, .bool false])[z * 3 + j]? = ([Value.slice none 0 0, .int .i64 0, .bool false] : List Value)[j]? := fun j hj => by
      rw [setsA_get, if_pos ⟨by omega, by simp; omega, by omega⟩]; congr 1; omega
    have := r1.put (Z := Zn.bare) f hS (tagne (by omega)) (fun j hj => tagne (by omega)) b3 (setsA_size ..) (fun i hi => by rw [setsA_get, if_neg (by simp; omega)]) ⟨none, 0, hin, PRow.nil _ _ _ _⟩
    unfold Dev.setZ; rw [Int.toNat_natCast]; exact this
  · have h0 : (D.doing (D.resetE n)).2 ≠ 0 := by simpa using h0
    have er : D.reset n = D.doing (D.resetE n) := by unfold Dev.reset; simp only []; rw [if_pos h0]
    rw [er]; exact ⟨rfl, t, r1, f01⟩
theorem RD.setSure {k b za c z : Nat} {t : Tags} {h h' : Heap} {arr : Array Value} {D : Dev} (r : RD k t h b za c arr D) (hz : z < D.zs.length) (u : Nat) (hb : Blk h' za (arr.setIfInBounds (z * 3 + 1) (.int .i64 (u : Int))) 80) (o : Only za h h') :
    RD k t h' b za c (arr.setIfInBounds (z * 3 + 1) (.int .i64 (u : Int))) { D with zs := D.zs.set z { D.zs[z] with sure := u } } := by
  obtain ⟨a, d, hp, c0, c1, c2⟩ := r.zR hz
  have hk := r.own
  have hsz := r.size; have hle := r.le
  have hS : ∀ q : Nat × Nat, q.1 = 0 → q ≠ (k, 1) := fun q hq e => by subst e; exact hk hq
  have f : Fr (fun q => q ≠ (k, 1)) t h t h' := Fr.upd o.upd fun hn => hn r.tagZ
  obtain ⟨q1, q2, q3, q4⟩ := set3 (arr := arr) (z := z) (o := 1) (n := z * 3 + 1) (v := .int .i64 (u : Int)) (by omega) (by omega) rfl
  refine r.put f hS (tagne (by omega)) (fun j hj => tagne (by omega)) hb q1 q2 ⟨a, d, fun j hj => ?_, hp.fr f hS (tagne (by omega))⟩
  match j, hj with
  | 0, _ => rw [q4 0 (by omega) (by omega)]; exact c0
  | 1, _ => exact q3
  | 2, _ => rw [q4 2 (by omega) (by omega)]; exact c2
theorem flush_ok {k b : Nat} {t : Tags} {D : Dev} (o : DevOk D) (h : Heap) (r : RRep k t h b D) :
    CallsH Tryz.prog 44 [ptr b] h fun v h' => v = .int .i64 D.flush.2 ∧ Acted k t h b D.flush.1 h' := by
  refine fun_ok hm' Tryz.func44 (by kernel_rfl) (F44_eq _ _ h) ?_
  unfold F44
  refine call_of (may_ok o 0 h r) ?_
  rintro v h1 ⟨rfl, r1, u1⟩
  have f01 : Fr (fun p => p.1 ≠ k) t h t h1 := by obtain ⟨za, c, arr, r⟩ := r; exact Fr.upd u1 fun hn => hn (by rw [r.tagB])
  refine ⟨(D.doing 0).2, rfl, ?_⟩
  obtain ⟨za, c, arr, r1⟩ := r1
  have oE := o.doing 0
  have hzn := oE.zones
  obtain ⟨E, hEd⟩ : ∃ E, E = (D.doing 0).1 := ⟨_, rfl⟩
  rw [← hEd] at r1 oE hzn
  refine ⟨fun (s : Int) h' => ∃ (i : Nat) (arr' : Array Value), s = i ∧ i ≤ E.zs.length ∧ ((D.doing 0).2 ≠ 0 → i = 0) ∧ RD k t h' b za c arr' { E with zs := upto (fun _ Z => Z.settle) i E.zs } ∧ Fr (fun p => p.1 ≠ k) t h t h', fun (s : Int) _ => ((E.zs.length : Int) - s).toNat, ⟨0, arr, rfl, Nat.zero_le _, fun _ => rfl, by rw [upto_zero]; exact r1, f01⟩, ?_⟩
  rintro s j h2 ⟨i, arr', rfl, hi, h0i, r2, f2⟩
  have hlen : (upto (fun _ (Z : Zn) => Z.settle) i E.zs).length = E.zs.length := upto_len ..
  have ez := r2.cz
  simp only [hlen] at ez
  have fin0 : (D.doing 0).2 ≠ 0 → Acted k t h b D.flush.1 h2 ∧ D.flush.2 = (D.doing 0).2 := fun hne => by
    have er : D.flush = D.doing 0 := by unfold Dev.flush; simp only []; rw [if_pos hne]
    have := h0i hne; subst this
    rw [upto_zero] at r2
    rw [er, ← hEd]; exact ⟨⟨t, ⟨za, c, arr', r2⟩, f2⟩, rfl⟩
  refine cut_q (ts := []) (fun _ h' => h' = h2 ∧ i < E.zs.length ∧ (D.doing 0).2 = 0) ?_ ?_
  rotate_left
  · intro K hK
    refine ld_of (c := .slice) (some ⟨za, 0, none⟩, E.zs.length, c) ez (br_of (fun hlt => br_of (fun h0 => hK () _ ⟨rfl, ?_, by simpa using h0⟩) fun h0 => ?_) fun hlt => ?_)
    · have := of_decide_eq_true hlt; simp only [] at this; omega
    · have h0 : (D.doing 0).2 ≠ 0 := by simpa using h0
      obtain ⟨k1, k2⟩ := fin0 h0
      exact ⟨by rw [k2], k1⟩
    · have hi : i = E.zs.length := by have := of_decide_eq_false hlt; simp only [] at this; omega
      by_cases h0 : (D.doing 0).2 = 0
      · have er : D.flush = (E.settle, 0) := by unfold Dev.flush; simp only []; rw [if_neg (by simp [h0]), ← hEd]
        rw [er, h0]
        refine ⟨rfl, t, ⟨za, c, arr', ?_⟩, f2⟩
        have e : upto (fun _ (Z : Zn) => Z.settle) i E.zs = E.zs.map Zn.settle := by
          rw [hi, upto_full]; apply List.ext_getElem?; intro j; simp [List.getElem?_mapIdx]
        rw [e] at r2; exact r2
      · obtain ⟨k1, k2⟩ := fin0 h0
        exact ⟨by rw [k2], k1⟩
  rintro _ h' ⟨hh, hlt, h0⟩ _; subst h'
  have hlt' : i < (upto (fun _ (Z : Zn) => Z.settle) i E.zs).length := by omega
  have hz : (upto (fun _ (Z : Zn) => Z.settle) i E.zs)[i] = E.zs[i] := by
    have := upto_get (fun _ (Z : Zn) => Z.settle) E.zs (Nat.le_refl i)
    rw [List.getElem?_eq_getElem hlt', List.getElem?_eq_getElem hlt] at this
    exact Option.some.inj this
  obtain ⟨a, d, hp, e0, e1, e2, _⟩ := RD.at0 r2 (z := i) hlt'
  simp only [hz] at e0
  have hsz := r2.size; have hle : (upto (fun _ (Z : Zn) => Z.settle) i E.zs).length ≤ c := r2.le
  refine ld_of (c := .slice) (some ⟨za, 0, none⟩, E.zs.length, c) ez (ld_of (c := .slice) (some ⟨za, 0, none⟩, E.zs.length, c) ez (ptr_of (ix_of hlt (ld_of (c := .slice) (a, E.zs[i].pages.length, d) e0 (ptr_of (ix_of hlt ?_))))))
  rw [add_mk, add_mk, Int.toNat_natCast, Nat.zero_add]
  refine st_blk r2.zblk (by omega) fun h3 b3 o3 => ?_
  have r3 := RD.setSure r2 (z := i) hlt' _ b3 o3
  simp only [hz] at r3
  have e : (upto (fun _ (Z : Zn) => Z.settle) i E.zs).set i { E.zs[i] with sure := E.zs[i].pages.length } = upto (fun _ (Z : Zn) => Z.settle) (i + 1) E.zs := upto_set (fun _ (Z : Zn) => Z.settle) E.zs (List.getElem?_eq_getElem hlt)
  rw [e] at r3
  rw [wr64 (by omega) (by omega)]
  exact ⟨⟨i + 1, _, rfl, hlt, fun hne => (hne h0).elim, r3, f2.trans (Fr.upd o3.upd fun hn => hn (by rw [r2.tagZ]))⟩, (by first | omega | (dsimp only; omega) | (simp only []; omega))⟩
/-- The end of a zone's turn in a crash: what stays is laid anew. -/
theorem crash_tail {k b za c i m q8 d : Nat} {t : Tags} {h : Heap} {arr : Array Value} {D : Dev} {a : Option Addr} {Z : Zn} (r : RD k t h b za c arr D) (hz : i < D.zs.length) (hl : Z.pages.length ≤ 16) (hm : m ≤ Z.pages.length) (hp : PRow k i t h a d Z.pages)
    (b8 : Blk h q8 #[.slice a Z.pages.length d, .int .i64 (Z.sure : Int), .bool Z.fin] 80) (t8 : (t q8).1 = 0) {ta : Option Addr} {tear : List Bool} {tl : Nat} (htl : tl = tear.length) (bt : ZnsP.Bo h ta tear) (tt : tear ≠ [] → ∀ g, blkOf ta = some g → (t g).1 = 0) (hi : i ≤ 24) {K1 : Int → Heap → Prop}
    (hK : ∀ h' t' arr', RD k t' h' b za c arr' { D with zs := D.zs.set i ⟨Z.pages.take m ++ (if (tear.getD i false && decide (m < Z.pages.length)) = true then [[]] else []), (Z.pages.take m ++ (if (tear.getD i false && decide (m < Z.pages.length)) = true then [[]] else [])).length, Z.fin⟩ } → Fr (fun p => p.1 ≠ k) t h t' h' → K1 ((i + 1 : Nat) : Int) h') :
    newW (.cells #[] 68) (fun a19 h20 =>
      ldW .slice (Addr.add ⟨q8, 0, none⟩ 0) (fun (x21 : Option Addr × Nat × Nat) =>
      slW x21.1 x21.2.2 1 (0 : Int) (m : Int) (((x21.2.2 : Nat) : Int)) (fun b22 n23 c24 =>
      apW Tryz.prog #[67, 67] #[.slice (some a19) 0 0, .slice b22 n23 c24] (fun b25 n26 c27 h28 =>
      cutT [.sc .slice] (fun (K29 : ((Option Addr × Nat × Nat)) → Heap → Prop) h39 =>
      br (decide ((i : Int) < (((tl : Nat) : Int))))
      (ptrW ta (fun a30 =>
      idxW (i : Int) tl true (ldW .bool (Addr.add a30 (Int.toNat (i : Int) * 1)) (fun (x31 : Bool) =>
      br x31
      (ldW .slice (Addr.add ⟨q8, 0, none⟩ 0) (fun (x32 : Option Addr × Nat × Nat) =>
      br (decide ((m : Int) < (((x32.2.1 : Nat) : Int))))
      (newW (.cells #[.slice none 0 0] 68) (fun a33 h34 =>
      apW Tryz.prog #[67, 67] #[.slice b25 n26 c27, .slice (some a33) 1 1] (fun b35 n36 c37 h38 =>
      K29 (b35, n36, c37) h38) h34) h39)
      (K29 (b25, n26, c27) h39)) h39)
      (K29 (b25, n26, c27) h39)) h39)))
      (K29 (b25, n26, c27) h39)) (fun (s40 : (Option Addr × Nat × Nat)) _ h41 =>
      ldW .slice (Addr.add ⟨b, 0, none⟩ 0) (fun (x42 : Option Addr × Nat × Nat) =>
      ldW .bool (Addr.add ⟨q8, 0, none⟩ 2) (fun (x43 : Bool) =>
      ptrW x42.1 (fun a44 =>
      idxW (i : Int) x42.2.1 true (stLW (Addr.add a44 (Int.toNat (i : Int) * 3)) [.slice s40.1 s40.2.1 s40.2.2, .int .i64 (((s40.2.1 : Nat) : Int)), .bool x43] (fun h45 =>
      K1 (IntKind.wrap .i64 ((i : Int) + (1 : Int))) h45) h41))) h41) h41) h28) h20)) h20) h := by
  subst htl
  have hk := r.own
  have hS2 : ∀ q : Nat × Nat, q.1 = 0 → q ≠ (k, 2 + i) := fun q hq e => by subst e; exact hk hq
  refine new_of fun h1 b1 n1 s1 => ?_
  refine ld_of (c := .slice) (a, Z.pages.length, d) (by rw [add_mk, cellH_blk (b8.new n1)]; rfl) ⟨⟨by omega, by omega, by have := hp.le; simp only []; omega, by simp only []; omega⟩, ?_⟩
  have en : ((m : Int)).toNat - ((0 : Int)).toNat = m := by omega
  have hml : (Z.pages.take m).length = m := by simp; omega
  have esb : sliceBase a ((0 : Int)).toNat (((d : Nat) : Int)).toNat 1 = a := sliceBase_zero a _
  simp only [en, esb]
  have t1 := lay_ge (t := t) (p := (k, 2 + i)) (Nat.le_refl h.size)
  have f1 : Fr (fun q => q ≠ (k, 2 + i)) t h (lay t h.size (k, 2 + i)) h1 := Fr.lay n1 _
  have hp1 : PRow k i (lay t h.size (k, 2 + i)) h1 a m (Z.pages.take m) := (hp.cut m hm).fr (S := fun _ => True) (Fr.lay n1 _) (fun _ _ => trivial) trivial
  have key := hp1.copy (d' := (((d : Nat) : Int)).toNat - ((0 : Int)).toNat) (r0 := h.size) (by omega) b1.lt t1 (F := fun b25 n26 c27 h28 =>
      cutT [.sc .slice] (fun (K29 : ((Option Addr × Nat × Nat)) → Heap → Prop) h39 =>
      br (decide ((i : Int) < (((tear.length : Nat) : Int))))
      (ptrW ta (fun a30 =>
      idxW (i : Int) tear.length true (ldW .bool (Addr.add a30 (Int.toNat (i : Int) * 1)) (fun (x31 : Bool) =>
      br x31
      (ldW .slice (Addr.add ⟨q8, 0, none⟩ 0) (fun (x32 : Option Addr × Nat × Nat) =>
      br (decide ((m : Int) < (((x32.2.1 : Nat) : Int))))
      (newW (.cells #[.slice none 0 0] 68) (fun a33 h34 =>
      apW Tryz.prog #[67, 67] #[.slice b25 n26 c27, .slice (some a33) 1 1] (fun b35 n36 c37 h38 =>
      K29 (b35, n36, c37) h38) h34) h39)
      (K29 (b25, n26, c27) h39)) h39)
      (K29 (b25, n26, c27) h39)) h39)))
      (K29 (b25, n26, c27) h39)) (fun (s40 : (Option Addr × Nat × Nat)) _ h41 =>
      ldW .slice (Addr.add ⟨b, 0, none⟩ 0) (fun (x42 : Option Addr × Nat × Nat) =>
      ldW .bool (Addr.add ⟨q8, 0, none⟩ 2) (fun (x43 : Bool) =>
      ptrW x42.1 (fun a44 =>
      idxW (i : Int) x42.2.1 true (stLW (Addr.add a44 (Int.toNat (i : Int) * 3)) [.slice s40.1 s40.2.1 s40.2.2, .int .i64 (((s40.2.1 : Nat) : Int)), .bool x43] (fun h45 =>
      K1 (IntKind.wrap .i64 ((i : Int) + (1 : Int))) h45) h41))) h41) h41) h28) ?_
  · rw [hml] at key; exact key
  intro a2 c2 h2 hp2 n2
  have f2 : Fr (fun q => q ≠ (k, 2 + i)) t h (lay (lay t h.size (k, 2 + i)) h1.size (k, 2 + i)) h2 := f1.trans (Fr.lay n2 _)
  generalize lay (lay t h.size (k, 2 + i)) h1.size (k, 2 + i) = t2 at hp2 f2
  have b82 := (b8.new n1).new n2
  have ins2 : ∀ (j : Nat) (x : Bool), tear[j]? = some x → ∃ b o, ta = some ⟨b, o, none⟩ ∧ cellH h2 ⟨b, o + j, none⟩ = some (.bool x) := fun j x hx => by
    obtain ⟨g, o, e, hg, hc⟩ := bt j x hx
    have h0 := tt (fun e => by subst e; simp at hx) g (by rw [e]; rfl)
    exact ⟨g, o, e, by rw [cellH_same (f2.same g hg (hS2 _ h0))]; exact hc⟩
  obtain ⟨torn, htorn⟩ : ∃ torn, torn = (tear.getD i false && decide (m < Z.pages.length)) := ⟨_, rfl⟩
  refine cut_q (ts := [.sc .slice]) (fun (s : Option Addr × Nat × Nat) h3 => ∃ t3, s.2.1 = (Z.pages.take m ++ (if torn = true then [[]] else [])).length ∧ PRow k i t3 h3 s.1 s.2.2 (Z.pages.take m ++ (if torn = true then [[]] else [])) ∧ Fr (fun q => q ≠ (k, 2 + i)) t h t3 h3) ?_ ?_
  · rintro ⟨a3, n3, c3⟩ h3 ⟨t3, e3, hp3, f3⟩ _
    simp only [] at e3 hp3 ⊢
    subst e3
    have bB := f3.blk r.blk (by rw [r.tagB]; exact tagne (by omega))
    have bZ := f3.blk r.zblk (by rw [r.tagZ]; exact tagne (by omega))
    have b83 := f3.blk b8 (hS2 _ t8)
    have hsz := r.size; have hle := r.le
    refine ld_of (c := .slice) (some ⟨za, 0, none⟩, D.zs.length, c) (by rw [add_mk, cellH_blk bB]; rfl) (ld_of (c := .bool) Z.fin (by rw [add_mk, cellH_blk b83]; rfl) (ptr_of (ix_of hz ?_)))
    rw [add_mk, Int.toNat_natCast, Nat.zero_add]
    refine stL_blk bZ (by simp; omega) fun h4 b4 o4 => ?_
    have hS : ∀ q : Nat × Nat, q.1 = 0 → q ≠ (k, 1) := fun q hq e => by subst e; exact hk hq
    have f4 : Fr (fun q => q ≠ (k, 1)) t3 h3 t3 h4 := Fr.upd o4.upd fun hn => hn (by rw [f3.tags za r.zblk.lt]; exact r.tagZ)
    have f04 : Fr (fun q => q ≠ (k, 1) ∧ q ≠ (k, 2 + i)) t h t3 h4 := (f3.mono fun _ hq => hq.2).trans (f4.mono fun _ hq => hq.1)
    have hin : ∀ (v0 v1 v2 : Value) (j : Nat), j < 3 → (setsA arr (i * 3) [v0, v1, v2])[i * 3 + j]? = ([v0, v1, v2] : List Value)[j]? := fun v0 v1 v2 j hj => by
      rw [setsA_get, if_pos ⟨by omega, by simp; omega, by omega⟩]; congr 1; omega
    have wri : IntKind.wrap .i64 ((i : Int) + 1) = ((i + 1 : Nat) : Int) := by rw [wr64 (by omega) (by omega)]; omega
    rw [wri]
    refine hK h4 t3 (setsA arr (i * 3) [.slice a3 (Z.pages.take m ++ (if torn = true then [[]] else [])).length c3, .int .i64 (((Z.pages.take m ++ (if torn = true then [[]] else [])).length : Nat) : Int), .bool Z.fin]) ?_ (f04.mono fun q hq => ⟨fun e => hq (by rw [e]), fun e => hq (by rw [e])⟩)
    rw [← htorn]
    exact r.put f04 (fun q hq => ⟨hS q hq, hS2 q hq⟩) ⟨tagne (by omega), tagne (by omega)⟩ (fun j hj => ⟨tagne (by omega), tagne (by omega)⟩) b4 (setsA_size ..) (fun j hj => by rw [setsA_get, if_neg (by simp; omega)]) ⟨a3, c3, fun j hj => by rw [hin _ _ _ j hj]; rfl, hp3.fr f4 hS (tagne (by omega))⟩
  · intro K hK2
    have plain : torn = false → K (a2, (Z.pages.take m).length, c2) h2 := fun ht => by
      subst ht
      exact hK2 _ _ ⟨t2, by simp, by simpa using hp2, f2⟩
    refine br_of (fun h0 => ?_) fun h0 => ?_
    · have h0 : i < tear.length := by have := of_decide_eq_true h0; omega
      obtain ⟨g, o, e, hc⟩ := ins2 i _ (List.getElem?_eq_getElem h0)
      subst e
      have et : tear.getD i false = tear[i] := by simp [List.getD_eq_getElem?_getD, List.getElem?_eq_getElem h0]
      rw [et] at htorn
      refine ptr_of (ix_of h0 (ld_of (c := .bool) tear[i] (by rw [add_mk, Int.toNat_natCast, Nat.mul_one]; exact hc) (br_of (fun hb => ld_of (c := .slice) (a, Z.pages.length, d) (by rw [add_mk, cellH_blk b82]; rfl) (br_of (fun hlt => ?_) fun hlt => ?_)) fun hb => ?_)))
      · have hlt : m < Z.pages.length := by have := of_decide_eq_true hlt; simp only [] at this; omega
        have ht : torn = true := by rw [htorn, hb, decide_eq_true hlt]; rfl
        refine PRow.push (a' := none) (c' := 0) (p := []) hp2 hk (Im.nil ..) Cp.none (by omega) fun a4 c4 h4 t4 f4 hp4 => hK2 _ _ ⟨t4, ?_, ?_, f2.trans f4⟩
        · simp [ht]
        · simp only [ht, if_true]; exact hp4
      · exact plain (by rw [htorn, hb, Bool.true_and]; have := of_decide_eq_false hlt; simp only [] at this; exact decide_eq_false (by omega))
      · exact plain (by rw [htorn, hb, Bool.false_and])
    · have h0 : tear.length ≤ i := by have := of_decide_eq_false h0; omega
      exact plain (by rw [htorn, List.getD_eq_getElem?_getD, List.getElem?_eq_none h0]; rfl)
/-- What holds ahead of each zone's turn. -/
def CrInv (k b za c : Nat) (D : Dev) (keep : List Int) (tear : List Bool) (t : Tags) (h : Heap) (s : Int) (h' : Heap) : Prop := ∃ (i : Nat) (arr' : Array Value) (t' : Tags), s = i ∧ i ≤ D.zs.length ∧ RD k t' h' b za c arr' { D with zs := upto (fun i Z => Z.crash keep tear i) i D.zs } ∧ Fr (fun p => p.1 ≠ k) t h t' h'
/- A NEW DEVICE. -/
theorem new_no (n p : Int) (h : Heap) (hn : ¬ ((1 ≤ n ∧ n ≤ 24) ∧ 1 ≤ p ∧ p ≤ 16)) : CallsH Tryz.prog 9 [.int .i64 n, .int .i64 p] h fun v h' => v = .tuple #[.pointer none, .int .i64 1] ∧ h' = h := by
  refine fun_ok hm' Tryz.func9 (by kernel_rfl) (F9_eq _ _ _ h) ?_
  unfold F9
  refine cut_q (ts := []) (fun _ _ => False) (fun _ _ hf _ => hf.elim) ?_
  intro K hK
  refine br_of (fun _ => ⟨rfl, rfl⟩) fun h1 => br_of (fun _ => ⟨rfl, rfl⟩) fun h2 => br_of (fun _ => ⟨rfl, rfl⟩) fun h3 => br_of (fun _ => ⟨rfl, rfl⟩) fun h4 => ?_
  have h1 := of_decide_eq_false h1; have h2 := of_decide_eq_false h2; have h3 := of_decide_eq_false h3; have h4 := of_decide_eq_false h4
  exact (hn ⟨⟨by omega, by omega⟩, by omega, by omega⟩).elim
theorem ap131 : apB Tryz.prog 76 80 3 40 = true := by kernel_rfl
def bareV : List Value := [.slice none 0 0, .int .i64 0, .bool false]
def bareL (i : Nat) : List Value := (List.replicate i bareV).flatten
theorem bareL_len (i : Nat) : (bareL i).length = i * 3 := by
  unfold bareL; induction i with
  | zero => rfl
  | succ i ih => rw [List.replicate_succ, List.flatten_cons, List.length_append, ih]; simp [bareV]; omega
theorem bareL_succ (i : Nat) : bareL (i + 1) = bareL i ++ bareV := by
  unfold bareL; rw [List.replicate_succ', List.flatten_append]; simp
theorem bareL_get {i z j : Nat} (hz : z < i) (hj : j < 3) : (bareL i)[z * 3 + j]? = bareV[j]? := by
  induction i with
  | zero => omega
  | succ i ih =>
    rw [bareL_succ]
    by_cases h : z < i
    · rw [List.getElem?_append_left (by rw [bareL_len]; omega)]; exact ih h
    · rw [List.getElem?_append_right (by rw [bareL_len]; omega), bareL_len]; congr 1; omega
theorem new_ok (k : Nat) (hk : k ≠ 0) (t : Tags) (n p : Nat) (h : Heap) (hn : 1 ≤ n ∧ n ≤ 24) (hp : 1 ≤ p ∧ p ≤ 16) : CallsH Tryz.prog 9 [.int .i64 (n : Int), .int .i64 (p : Int)] h fun v h' => ∃ b, v = .tuple #[ptr b, .int .i64 0] ∧ ZnsP.NewDev LoR k t h b (Dev.empty n p) h' := by
  refine fun_ok hm' Tryz.func9 (by kernel_rfl) (F9_eq _ _ _ h) ?_
  unfold F9
  refine cut_q (ts := []) (fun _ h' => h' = h) ?_ ?_
  rotate_left
  · intro K hK
    exact br_f (decide_eq_false (by omega)) (br_f (decide_eq_false (by omega)) (br_f (decide_eq_false (by omega)) (br_f (decide_eq_false (by omega)) (hK () _ rfl))))
  rintro _ h' hh _; subst h'
  refine new_of fun h1 b1 n1 s1 => ?_
  refine ⟨fun (s : Int) h' => ∃ (i : Nat) (a : Option Addr) (c : Nat), s = i ∧ i ≤ n ∧ OwnH h' 0 80 3 a i c (bareL i) ∧ Blk h' h.size #[.slice a i c, .int .i64 (p : Int), .int .i64 (-1), .int .i64 0, .bool false] 78 ∧ New h h' ∧ (∀ g, blkOf a = some g → h1.size ≤ g), fun (s : Int) _ => ((n : Int) - s).toNat, ⟨0, none, 0, rfl, Nat.zero_le _, OwnH.nil .., b1, n1, fun g hg => by cases hg⟩, ?_⟩
  rintro s j h2 ⟨i, a, c, rfl, hi, ow, b2, n2, hge⟩
  refine br_of (fun hlt => ?_) (fun hlt => ?_)
  · have hlt : i < n := by have := of_decide_eq_true hlt; omega
    refine ld_of (c := .slice) (a, i, c) (by rw [add_mk, cellH_blk b2]; rfl) (new_of fun h3 b3 n3 s3 => ?_)
    have ow3 := ow.grow n3
    have sz2 := b2.lt
    refine ap_row ap131 (.inl ow3) (m := 1) bareV rfl ?_ (by simp [bareV, Value.oneCell']) (by simp [maxLen]; omega) (by omega) fun a4 c4 h4 _ w4 ow4 => ?_
    · intro jj u hu
      rw [add_mk, cellH_blk b3, Nat.zero_add]
      have hjj : jj < 3 := by have := (List.getElem?_eq_some_iff.1 hu).1; simp [bareV] at this; omega
      match jj, hjj with
      | 0, _ => simpa [bareV] using hu
      | 1, _ => simpa [bareV] using hu
      | 2, _ => simpa [bareV] using hu
    have ow4 := ow4 (by omega)
    rw [← bareL_succ] at ow4
    have u := w4.upd
    have hne : some h.size ≠ blkOf a := fun e => by have := hge _ e.symm; omega
    have b4 : Blk h4 h.size _ _ := (u.same h.size (b2.new n3).lt hne).trans (b2.new n3)
    rw [add_mk]
    refine st_blk b4 (show 0 + 0 < 5 by omega) fun h5 b5 o5 => ?_
    rw [wr64 (by omega) (by omega)]
    have sz4 := u.size; have sz3 := n3.size
    have hge4 : ∀ g, blkOf a4 = some g → h1.size ≤ g := fun g hg => by
      rcases w4.at_ with e | ⟨g', e, e1, _⟩
      · exact hge g (by rw [← e]; exact hg)
      · rw [e] at hg; injection hg with hg; have := n2.size; have := n1.size; omega
    refine ⟨⟨i + 1, a4, c4, rfl, hlt, ow4.upd o5.upd (fun e => by have := hge4 _ e; omega), b5, ?_, hge4⟩, (by first | omega | (dsimp only; omega) | (simp only []; omega))⟩
    refine ⟨by rw [o5.size]; have := n2.size; omega, fun g hg => ?_⟩
    rw [o5.same g (by omega), u.same g (by have := n2.size; omega) (fun e => by have := hge _ e.symm; omega), n3.same g (by have := n2.size; omega), n2.same g hg]
  · have hin : i = n := by have := of_decide_eq_false hlt; omega
    subst hin
    rcases ow.row with ⟨_, ⟨_, h0, _⟩ | ⟨g, cur, rfl, _, bg, hnc, hcs, htk⟩⟩
    · omega
    have hg1 := hge g rfl
    have hcm : c ≤ maxLen := by
      rcases ow.2 with ⟨e1, _⟩ | ⟨_, cap, _, e1, _, _, _, h1, _⟩
      · injection e1 with e1 _ _; cases e1
      · injection e1 with _ _ e1; subst e1; exact h1
    refine ⟨h.size, rfl, n2, Nat.le_refl _, fun x => if x < h.size then t x else if x = g then (k, 1) else (k, 0), fun x hx => if_pos hx, g, c, cur, ?_⟩
    have hl : (Dev.empty i p).zs.length = i := by simp [Dev.empty]
    refine ⟨hk, ?_, ?_, bg, ?_, hcs, by rw [hl]; exact hnc, hcm, fun z Z hz => ?_⟩
    · rw [hl]; exact b2
    · show (if h.size < h.size then t h.size else if h.size = g then (k, 1) else (k, 0)) = (k, 0)
      rw [if_neg (by omega), if_neg (by omega)]
    · show (if g < h.size then t g else if g = g then (k, 1) else (k, 0)) = (k, 1)
      rw [if_neg (by omega), if_pos rfl]
    · have hzn : z < i := by have := (List.getElem?_eq_some_iff.1 hz).1; omega
      have : Z = Zn.bare := List.eq_of_mem_replicate (List.mem_of_getElem? hz)
      subst this
      refine ⟨none, 0, fun j hj => ?_, PRow.nil _ _ _ _⟩
      have := bareL_get hzn hj
      rw [← htk, List.getElem?_take_of_lt (by omega)] at this
      rw [← Array.getElem?_toList, this]; rfl
end Go.Proofs.YthimfpkkdhpceaaGreatDoor.ZnsR
/-
  The formulas of the reference of slot. Each formula checked by the kernel. Printed by a program of this repo.
-/
namespace Go.Proofs.YthimfpkkdhpceaaGreatDoor.W
open Go.Pl

-- function 23
set_option maxRecDepth 100000 in
def F23 (d_0 : Addr) (number_1 : Int) (K : Value → Heap → Prop) (h0 : Heap) : Prop := (
  br ((Int.tmod number_1 (2 : Int)) == (0 : Int))
  (ldW .slice (Addr.add d_0 0) (fun (x1 : Option Addr × Nat × Nat) =>
  K (.int .i64 (IntKind.wrap .i64 ((((x1.2.1 : Nat) : Int)) - (2 : Int)))) h0) h0)
  (ldW .slice (Addr.add d_0 0) (fun (x2 : Option Addr × Nat × Nat) =>
  K (.int .i64 (IntKind.wrap .i64 ((((x2.2.1 : Nat) : Int)) - (1 : Int)))) h0) h0))
set_option maxRecDepth 100000 in
theorem F23_eq (d_0 : Addr) (number_1 : Int) (K : Value → Heap → Prop) (h0 : Heap) : funWE Tryz.prog 23 (.seq (.leaf) (.seq (.seq (.leaf) (.cond (.seq (.leaf) (.leaf)) (.leaf))) (.seq (.leaf) (.leaf)))) [.pointer (some d_0), .int .u32 number_1] K h0 = F23 d_0 number_1 K h0 := by kernel_rfl

-- function 14
set_option maxRecDepth 100000 in
def F14 (d_0 : Addr) (c_1_0 : Int) (c_1_1 : Int) (c_1_2 : Int) (c_1_3 : Int) (c_1_4 : Int) (c_1_5 : Int) (c_1_6 : Option Addr) (c_1_6l c_1_6c : Nat) (K : Value → Heap → Prop) (h0 : Heap) : Prop := (
  newW (.cells #[.int .u32 c_1_0, .int .u32 c_1_1, .int .u32 c_1_2, .int .i64 c_1_3, .int .i64 c_1_4, .int .i64 c_1_5, .slice c_1_6 c_1_6l c_1_6c] 46) (fun a1 h2 =>
  ldAggW [.int .u32, .int .u32, .int .u32, .int .i64, .int .i64, .int .i64, .slice] a1 (fun (x3 : Int × Int × Int × Int × Int × Int × (Option Addr × Nat × Nat)) =>
  callT Tryz.prog 40 [.agg #[.int .u32 x3.1, .int .u32 x3.2.1, .int .u32 x3.2.2.1, .int .i64 x3.2.2.2.1, .int .i64 x3.2.2.2.2.1, .int .i64 x3.2.2.2.2.2.1, .slice x3.2.2.2.2.2.2.1 x3.2.2.2.2.2.2.2.1 x3.2.2.2.2.2.2.2.2]] [.sc .slice, .sc (.int .i64)] (fun (r4 : (Option Addr × Nat × Nat) × Int) h5 =>
  cutT [] (fun (K6 : Unit → Heap → Prop) h11 =>
  br (r4.2 != (0 : Int))
  (K (.int .i64 1) h11)
  (ldW (.int .i64) (Addr.add (Addr.add a1 3) 0) (fun (x7 : Int) =>
  ldW .slice (Addr.add d_0 0) (fun (x8 : Option Addr × Nat × Nat) =>
  br (x7 != (((x8.2.1 : Nat) : Int)))
  (K (.int .i64 1) h11)
  (ldW (.int .i64) (Addr.add (Addr.add a1 3) 1) (fun (x9 : Int) =>
  ldW (.int .i64) (Addr.add d_0 1) (fun (x10 : Int) =>
  br (x9 != x10)
  (K (.int .i64 1) h11)
  (K6 () h11)) h11) h11)) h11) h11)) (fun (_s12 : Unit) _ h13 =>
  ldW (.int .u32) (Addr.add a1 0) (fun (x14 : Int) =>
  callT Tryz.prog 23 [.pointer (some d_0), .int .u32 x14] [.sc (.int .i64)] (fun (r15 : Int) h16 =>
  callT Tryz.prog 41 [.pointer (some d_0), .int .i64 r15] [.sc (.int .i64)] (fun (r17 : Int) h18 =>
  loopT [.sc (.int .i64), .sc (.int .i64)] (fun (s20 : Int × Int) _ (K19 : (Int × Int) → Heap → Prop) h21 =>
  cutT [] (fun (K22 : Unit → Heap → Prop) h27 =>
  br (decide (s20.2 < (((r4.1.2.1 : Nat) : Int))))
  (br (s20.1 == (0 : Int))
  (K22 () h27)
  (br (s20.1 != (0 : Int))
  (K (.int .i64 s20.1) h27)
  (callT Tryz.prog 44 [.pointer (some d_0)] [.sc (.int .i64)] (fun (r23 : Int) h24 =>
  K (.int .i64 r23) h24) h27)))
  (br (s20.1 != (0 : Int))
  (K (.int .i64 s20.1) h27)
  (callT Tryz.prog 44 [.pointer (some d_0)] [.sc (.int .i64)] (fun (r25 : Int) h26 =>
  K (.int .i64 r25) h26) h27))) (fun (_s28 : Unit) _ h29 =>
  ldW (.int .u32) (Addr.add a1 1) (fun (x30 : Int) =>
  ldW (.int .u32) (Addr.add a1 0) (fun (x31 : Int) =>
  ptrW r4.1.1 (fun a32 =>
  idxW s20.2 r4.1.2.1 true (ldW .slice (Addr.add a32 (Int.toNat s20.2 * 1)) (fun (x33 : Option Addr × Nat × Nat) =>
  callT Tryz.prog 42 [.agg #[.int .u8 5, .int .u32 x30, .int .u32 (IntKind.wrap .u32 s20.2), .int .u32 x31], .slice x33.1 x33.2.1 x33.2.2] [.sc .slice, .sc (.int .i64)] (fun (r34 : (Option Addr × Nat × Nat) × Int) h35 =>
  callT Tryz.prog 43 [.pointer (some d_0), .int .i64 r15, .slice r34.1.1 r34.1.2.1 r34.1.2.2] [.sc (.int .i64), .sc (.int .i64)] (fun (r36 : Int × Int) h37 =>
  K19 (r36.2, (IntKind.wrap .i64 (s20.2 + (1 : Int)))) h37) h35) h29) h29))) h29) h29) h21) (r17, (0 : Int)) h18) h16) h13) h13) h5) h2) h2) h0)
set_option maxRecDepth 100000 in
theorem F14_eq (d_0 : Addr) (c_1_0 : Int) (c_1_1 : Int) (c_1_2 : Int) (c_1_3 : Int) (c_1_4 : Int) (c_1_5 : Int) (c_1_6 : Option Addr) (c_1_6l c_1_6c : Nat) (K : Value → Heap → Prop) (h0 : Heap) : funWE Tryz.prog 14 (.seq (.leaf) (.seq (.leaf) (.cut [] (.seq (.draw (odp [0, 1, 2, 3, 4, 5, 6, 7, 8, 9, 10, 11, 12, 13, 14, 15, 16, 17, 18, 19, 20, 21, 22] .nil) []) (.cond (.seq (.leaf) (.leaf)) (.leaf))) (.seq (.leaf) (.seq (.leaf) (.seq (.seq (.leaf) (.block (.loop [(6, .sc (.int .i64)), (8, .sc (.int .i64))] (.cut [] (.seq (.leaf) (.cond (.leaf) (.leaf))) (.seq (.block (.seq (.draw (odp [0, 1, 2, 3, 4, 5, 6, 7, 8, 9, 10, 11, 12, 13, 14, 15, 16] .nil) []) (.leaf))) (.leaf)))))) (.seq (.seq (.leaf) (.cond (.seq (.leaf) (.leaf)) (.leaf))) (.seq (.leaf) (.leaf))))))))) [.pointer (some d_0), .agg #[.int .u32 c_1_0, .int .u32 c_1_1, .int .u32 c_1_2, .int .i64 c_1_3, .int .i64 c_1_4, .int .i64 c_1_5, .slice c_1_6 c_1_6l c_1_6c]] K h0 = F14 d_0 c_1_0 c_1_1 c_1_2 c_1_3 c_1_4 c_1_5 c_1_6 c_1_6l c_1_6c K h0 := by kernel_rfl

-- function 18
set_option maxRecDepth 100000 in
def F18 (d_0 : Addr) (zone_1 : Int) (K : Value → Heap → Prop) (h0 : Heap) : Prop := (
  newW (.cells (zeroC Tryz.prog 46) 46) (fun a1 h2 =>
  newW (.cells (zeroC Tryz.prog 46) 46) (fun a3 h4 =>
  stLW a3 [.int .u32 0, .int .u32 0, .int .u32 0, .int .i64 0, .int .i64 0, .int .i64 0, .slice none 0 0] (fun h5 =>
  ldW .bool (Addr.add d_0 4) (fun (x6 : Bool) =>
  br x6
  (ldAggW [.int .u32, .int .u32, .int .u32, .int .i64, .int .i64, .int .i64, .slice] a3 (fun (x7 : Int × Int × Int × Int × Int × Int × (Option Addr × Nat × Nat)) =>
  stLW a1 [.int .u32 x7.1, .int .u32 x7.2.1, .int .u32 x7.2.2.1, .int .i64 x7.2.2.2.1, .int .i64 x7.2.2.2.2.1, .int .i64 x7.2.2.2.2.2.1, .slice x7.2.2.2.2.2.2.1 x7.2.2.2.2.2.2.2.1 x7.2.2.2.2.2.2.2.2] (fun h8 =>
  ldAggW [.int .u32, .int .u32, .int .u32, .int .i64, .int .i64, .int .i64, .slice] a1 (fun (x9 : Int × Int × Int × Int × Int × Int × (Option Addr × Nat × Nat)) =>
  K (.tuple #[.agg #[.int .u32 x9.1, .int .u32 x9.2.1, .int .u32 x9.2.2.1, .int .i64 x9.2.2.2.1, .int .i64 x9.2.2.2.2.1, .int .i64 x9.2.2.2.2.2.1, .slice x9.2.2.2.2.2.2.1 x9.2.2.2.2.2.2.2.1 x9.2.2.2.2.2.2.2.2], .int .i64 7]) h8) h8) h5) h5)
  (cutT [] (fun (K10 : Unit → Heap → Prop) h20 =>
  ldW .slice (Addr.add d_0 0) (fun (x11 : Option Addr × Nat × Nat) =>
  br (decide ((((x11.2.1 : Nat) : Int)) < (2 : Int)))
  (ldAggW [.int .u32, .int .u32, .int .u32, .int .i64, .int .i64, .int .i64, .slice] a3 (fun (x12 : Int × Int × Int × Int × Int × Int × (Option Addr × Nat × Nat)) =>
  stLW a1 [.int .u32 x12.1, .int .u32 x12.2.1, .int .u32 x12.2.2.1, .int .i64 x12.2.2.2.1, .int .i64 x12.2.2.2.2.1, .int .i64 x12.2.2.2.2.2.1, .slice x12.2.2.2.2.2.2.1 x12.2.2.2.2.2.2.2.1 x12.2.2.2.2.2.2.2.2] (fun h13 =>
  ldAggW [.int .u32, .int .u32, .int .u32, .int .i64, .int .i64, .int .i64, .slice] a1 (fun (x14 : Int × Int × Int × Int × Int × Int × (Option Addr × Nat × Nat)) =>
  K (.tuple #[.agg #[.int .u32 x14.1, .int .u32 x14.2.1, .int .u32 x14.2.2.1, .int .i64 x14.2.2.2.1, .int .i64 x14.2.2.2.2.1, .int .i64 x14.2.2.2.2.2.1, .slice x14.2.2.2.2.2.2.1 x14.2.2.2.2.2.2.2.1 x14.2.2.2.2.2.2.2.2], .int .i64 1]) h13) h13) h20) h20)
  (ldW .slice (Addr.add d_0 0) (fun (x15 : Option Addr × Nat × Nat) =>
  br (zone_1 != (IntKind.wrap .i64 ((((x15.2.1 : Nat) : Int)) - (1 : Int))))
  (ldW .slice (Addr.add d_0 0) (fun (x16 : Option Addr × Nat × Nat) =>
  br (zone_1 != (IntKind.wrap .i64 ((((x16.2.1 : Nat) : Int)) - (2 : Int))))
  (ldAggW [.int .u32, .int .u32, .int .u32, .int .i64, .int .i64, .int .i64, .slice] a3 (fun (x17 : Int × Int × Int × Int × Int × Int × (Option Addr × Nat × Nat)) =>
  stLW a1 [.int .u32 x17.1, .int .u32 x17.2.1, .int .u32 x17.2.2.1, .int .i64 x17.2.2.2.1, .int .i64 x17.2.2.2.2.1, .int .i64 x17.2.2.2.2.2.1, .slice x17.2.2.2.2.2.2.1 x17.2.2.2.2.2.2.2.1 x17.2.2.2.2.2.2.2.2] (fun h18 =>
  ldAggW [.int .u32, .int .u32, .int .u32, .int .i64, .int .i64, .int .i64, .slice] a1 (fun (x19 : Int × Int × Int × Int × Int × Int × (Option Addr × Nat × Nat)) =>
  K (.tuple #[.agg #[.int .u32 x19.1, .int .u32 x19.2.1, .int .u32 x19.2.2.1, .int .i64 x19.2.2.2.1, .int .i64 x19.2.2.2.2.1, .int .i64 x19.2.2.2.2.2.1, .slice x19.2.2.2.2.2.2.1 x19.2.2.2.2.2.2.2.1 x19.2.2.2.2.2.2.2.2], .int .i64 1]) h18) h18) h20) h20)
  (K10 () h20)) h20)
  (K10 () h20)) h20)) h20) (fun (_s21 : Unit) _ h22 =>
  newW (.cells #[] 68) (fun a23 h24 =>
  loopT [.sc .slice, .sc (.int .u32), .sc (.int .u32), .sc (.int .i64)] (fun (s26 : (Option Addr × Nat × Nat) × Int × Int × Int) _ (K25 : ((Option Addr × Nat × Nat) × Int × Int × Int) → Heap → Prop) h27 =>
  ldW .slice (Addr.add d_0 0) (fun (x28 : Option Addr × Nat × Nat) =>
  ptrW x28.1 (fun a29 =>
  idxW zone_1 x28.2.1 true (ldW .slice (Addr.add (Addr.add a29 (Int.toNat zone_1 * 3)) 0) (fun (x30 : Option Addr × Nat × Nat) =>
  br (decide (s26.2.2.2 < (((x30.2.1 : Nat) : Int))))
  (ldW .slice (Addr.add d_0 0) (fun (x31 : Option Addr × Nat × Nat) =>
  ptrW x31.1 (fun a32 =>
  idxW zone_1 x31.2.1 true (ldW .slice (Addr.add (Addr.add a32 (Int.toNat zone_1 * 3)) 0) (fun (x33 : Option Addr × Nat × Nat) =>
  ptrW x33.1 (fun a34 =>
  idxW s26.2.2.2 x33.2.1 true (ldW .slice (Addr.add a34 (Int.toNat s26.2.2.2 * 1)) (fun (x35 : Option Addr × Nat × Nat) =>
  callT Tryz.prog 55 [.slice x35.1 x35.2.1 x35.2.2] [.agg [.int .u8, .int .u32, .int .u32, .int .u32], .sc .slice, .sc (.int .i64)] (fun (r36 : (Int × Int × Int × Int) × (Option Addr × Nat × Nat) × Int) h37 =>
  newW (.cells (zeroC Tryz.prog 99) 99) (fun a38 h39 =>
  stLW a38 [.int .u8 r36.1.1, .int .u32 r36.1.2.1, .int .u32 r36.1.2.2.1, .int .u32 r36.1.2.2.2] (fun h40 =>
  cutT [.sc (.int .u32), .sc (.int .u32)] (fun (K41 : (Int × Int) → Heap → Prop) h44 =>
  br (s26.2.2.2 == (0 : Int))
  (ldW (.int .u32) (Addr.add a38 1) (fun (x42 : Int) =>
  ldW (.int .u32) (Addr.add a38 3) (fun (x43 : Int) =>
  K41 (x42, x43) h44) h44) h44)
  (K41 (s26.2.1, s26.2.2.1) h44)) (fun (s45 : Int × Int) _ h46 =>
  cutT [] (fun (K47 : Unit → Heap → Prop) h67 =>
  br (r36.2.2 != (0 : Int))
  (ldAggW [.int .u32, .int .u32, .int .u32, .int .i64, .int .i64, .int .i64, .slice] a3 (fun (x48 : Int × Int × Int × Int × Int × Int × (Option Addr × Nat × Nat)) =>
  stLW a1 [.int .u32 x48.1, .int .u32 x48.2.1, .int .u32 x48.2.2.1, .int .i64 x48.2.2.2.1, .int .i64 x48.2.2.2.2.1, .int .i64 x48.2.2.2.2.2.1, .slice x48.2.2.2.2.2.2.1 x48.2.2.2.2.2.2.2.1 x48.2.2.2.2.2.2.2.2] (fun h49 =>
  ldAggW [.int .u32, .int .u32, .int .u32, .int .i64, .int .i64, .int .i64, .slice] a1 (fun (x50 : Int × Int × Int × Int × Int × Int × (Option Addr × Nat × Nat)) =>
  K (.tuple #[.agg #[.int .u32 x50.1, .int .u32 x50.2.1, .int .u32 x50.2.2.1, .int .i64 x50.2.2.2.1, .int .i64 x50.2.2.2.2.1, .int .i64 x50.2.2.2.2.2.1, .slice x50.2.2.2.2.2.2.1 x50.2.2.2.2.2.2.2.1 x50.2.2.2.2.2.2.2.2], .int .i64 10]) h49) h49) h67) h67)
  (ldW (.int .u8) (Addr.add a38 0) (fun (x51 : Int) =>
  br (x51 != (5 : Int))
  (ldAggW [.int .u32, .int .u32, .int .u32, .int .i64, .int .i64, .int .i64, .slice] a3 (fun (x52 : Int × Int × Int × Int × Int × Int × (Option Addr × Nat × Nat)) =>
  stLW a1 [.int .u32 x52.1, .int .u32 x52.2.1, .int .u32 x52.2.2.1, .int .i64 x52.2.2.2.1, .int .i64 x52.2.2.2.2.1, .int .i64 x52.2.2.2.2.2.1, .slice x52.2.2.2.2.2.2.1 x52.2.2.2.2.2.2.2.1 x52.2.2.2.2.2.2.2.2] (fun h53 =>
  ldAggW [.int .u32, .int .u32, .int .u32, .int .i64, .int .i64, .int .i64, .slice] a1 (fun (x54 : Int × Int × Int × Int × Int × Int × (Option Addr × Nat × Nat)) =>
  K (.tuple #[.agg #[.int .u32 x54.1, .int .u32 x54.2.1, .int .u32 x54.2.2.1, .int .i64 x54.2.2.2.1, .int .i64 x54.2.2.2.2.1, .int .i64 x54.2.2.2.2.2.1, .slice x54.2.2.2.2.2.2.1 x54.2.2.2.2.2.2.2.1 x54.2.2.2.2.2.2.2.2], .int .i64 10]) h53) h53) h67) h67)
  (ldW (.int .u32) (Addr.add a38 2) (fun (x55 : Int) =>
  br (x55 != (IntKind.wrap .u32 s26.2.2.2))
  (ldAggW [.int .u32, .int .u32, .int .u32, .int .i64, .int .i64, .int .i64, .slice] a3 (fun (x56 : Int × Int × Int × Int × Int × Int × (Option Addr × Nat × Nat)) =>
  stLW a1 [.int .u32 x56.1, .int .u32 x56.2.1, .int .u32 x56.2.2.1, .int .i64 x56.2.2.2.1, .int .i64 x56.2.2.2.2.1, .int .i64 x56.2.2.2.2.2.1, .slice x56.2.2.2.2.2.2.1 x56.2.2.2.2.2.2.2.1 x56.2.2.2.2.2.2.2.2] (fun h57 =>
  ldAggW [.int .u32, .int .u32, .int .u32, .int .i64, .int .i64, .int .i64, .slice] a1 (fun (x58 : Int × Int × Int × Int × Int × Int × (Option Addr × Nat × Nat)) =>
  K (.tuple #[.agg #[.int .u32 x58.1, .int .u32 x58.2.1, .int .u32 x58.2.2.1, .int .i64 x58.2.2.2.1, .int .i64 x58.2.2.2.2.1, .int .i64 x58.2.2.2.2.2.1, .slice x58.2.2.2.2.2.2.1 x58.2.2.2.2.2.2.2.1 x58.2.2.2.2.2.2.2.2], .int .i64 10]) h57) h57) h67) h67)
  (ldW (.int .u32) (Addr.add a38 1) (fun (x59 : Int) =>
  br (x59 != s45.1)
  (ldAggW [.int .u32, .int .u32, .int .u32, .int .i64, .int .i64, .int .i64, .slice] a3 (fun (x60 : Int × Int × Int × Int × Int × Int × (Option Addr × Nat × Nat)) =>
  stLW a1 [.int .u32 x60.1, .int .u32 x60.2.1, .int .u32 x60.2.2.1, .int .i64 x60.2.2.2.1, .int .i64 x60.2.2.2.2.1, .int .i64 x60.2.2.2.2.2.1, .slice x60.2.2.2.2.2.2.1 x60.2.2.2.2.2.2.2.1 x60.2.2.2.2.2.2.2.2] (fun h61 =>
  ldAggW [.int .u32, .int .u32, .int .u32, .int .i64, .int .i64, .int .i64, .slice] a1 (fun (x62 : Int × Int × Int × Int × Int × Int × (Option Addr × Nat × Nat)) =>
  K (.tuple #[.agg #[.int .u32 x62.1, .int .u32 x62.2.1, .int .u32 x62.2.2.1, .int .i64 x62.2.2.2.1, .int .i64 x62.2.2.2.2.1, .int .i64 x62.2.2.2.2.2.1, .slice x62.2.2.2.2.2.2.1 x62.2.2.2.2.2.2.2.1 x62.2.2.2.2.2.2.2.2], .int .i64 10]) h61) h61) h67) h67)
  (ldW (.int .u32) (Addr.add a38 3) (fun (x63 : Int) =>
  br (x63 != s45.2)
  (ldAggW [.int .u32, .int .u32, .int .u32, .int .i64, .int .i64, .int .i64, .slice] a3 (fun (x64 : Int × Int × Int × Int × Int × Int × (Option Addr × Nat × Nat)) =>
  stLW a1 [.int .u32 x64.1, .int .u32 x64.2.1, .int .u32 x64.2.2.1, .int .i64 x64.2.2.2.1, .int .i64 x64.2.2.2.2.1, .int .i64 x64.2.2.2.2.2.1, .slice x64.2.2.2.2.2.2.1 x64.2.2.2.2.2.2.2.1 x64.2.2.2.2.2.2.2.2] (fun h65 =>
  ldAggW [.int .u32, .int .u32, .int .u32, .int .i64, .int .i64, .int .i64, .slice] a1 (fun (x66 : Int × Int × Int × Int × Int × Int × (Option Addr × Nat × Nat)) =>
  K (.tuple #[.agg #[.int .u32 x66.1, .int .u32 x66.2.1, .int .u32 x66.2.2.1, .int .i64 x66.2.2.2.1, .int .i64 x66.2.2.2.2.1, .int .i64 x66.2.2.2.2.2.1, .slice x66.2.2.2.2.2.2.1 x66.2.2.2.2.2.2.2.1 x66.2.2.2.2.2.2.2.2], .int .i64 10]) h65) h65) h67) h67)
  (K47 () h67)) h67)) h67)) h67)) h67)) (fun (_s68 : Unit) _ h69 =>
  newW (.cells #[.slice r36.2.1.1 r36.2.1.2.1 r36.2.1.2.2] 68) (fun a70 h71 =>
  apW Tryz.prog #[67, 67] #[.slice s26.1.1 s26.1.2.1 s26.1.2.2, .slice (some a70) 1 1] (fun b72 n73 c74 h75 =>
  K25 ((b72, n73, c74), s45.1, s45.2, (IntKind.wrap .i64 (s26.2.2.2 + (1 : Int)))) h75) h71) h69) h46) h40) h39) h37) h27) h27))) h27))) h27)
  (callT Tryz.prog 56 [.slice s26.1.1 s26.1.2.1 s26.1.2.2] [.agg [.int .u32, .int .u32, .int .u32, .int .i64, .int .i64, .int .i64, .slice], .sc (.int .i64)] (fun (r76 : (Int × Int × Int × Int × Int × Int × (Option Addr × Nat × Nat)) × Int) h77 =>
  newW (.cells (zeroC Tryz.prog 46) 46) (fun a78 h79 =>
  stLW a78 [.int .u32 r76.1.1, .int .u32 r76.1.2.1, .int .u32 r76.1.2.2.1, .int .i64 r76.1.2.2.2.1, .int .i64 r76.1.2.2.2.2.1, .int .i64 r76.1.2.2.2.2.2.1, .slice r76.1.2.2.2.2.2.2.1 r76.1.2.2.2.2.2.2.2.1 r76.1.2.2.2.2.2.2.2.2] (fun h80 =>
  cutT [.sc .bool] (fun (K81 : Bool → Heap → Prop) h90 =>
  br (r76.2 != (0 : Int))
  (K81 true h90)
  (ldW (.int .u32) (Addr.add a78 0) (fun (x82 : Int) =>
  br (x82 != s26.2.2.1)
  (K81 true h90)
  (ldW (.int .u32) (Addr.add a78 1) (fun (x83 : Int) =>
  br (x83 != s26.2.1)
  (K81 true h90)
  (ldW (.int .i64) (Addr.add (Addr.add a78 3) 0) (fun (x84 : Int) =>
  ldW .slice (Addr.add d_0 0) (fun (x85 : Option Addr × Nat × Nat) =>
  br (x84 != (((x85.2.1 : Nat) : Int)))
  (K81 true h90)
  (ldW (.int .i64) (Addr.add (Addr.add a78 3) 1) (fun (x86 : Int) =>
  ldW (.int .i64) (Addr.add d_0 1) (fun (x87 : Int) =>
  br (x86 != x87)
  (K81 true h90)
  (callT Tryz.prog 23 [.pointer (some d_0), .int .u32 s26.2.2.1] [.sc (.int .i64)] (fun (r88 : Int) h89 =>
  K81 (r88 != zone_1) h89) h90)) h90) h90)) h90) h90)) h90)) h90)) (fun (s91 : Bool) _ h92 =>
  br s91
  (ldAggW [.int .u32, .int .u32, .int .u32, .int .i64, .int .i64, .int .i64, .slice] a3 (fun (x93 : Int × Int × Int × Int × Int × Int × (Option Addr × Nat × Nat)) =>
  stLW a1 [.int .u32 x93.1, .int .u32 x93.2.1, .int .u32 x93.2.2.1, .int .i64 x93.2.2.2.1, .int .i64 x93.2.2.2.2.1, .int .i64 x93.2.2.2.2.2.1, .slice x93.2.2.2.2.2.2.1 x93.2.2.2.2.2.2.2.1 x93.2.2.2.2.2.2.2.2] (fun h94 =>
  ldAggW [.int .u32, .int .u32, .int .u32, .int .i64, .int .i64, .int .i64, .slice] a1 (fun (x95 : Int × Int × Int × Int × Int × Int × (Option Addr × Nat × Nat)) =>
  K (.tuple #[.agg #[.int .u32 x95.1, .int .u32 x95.2.1, .int .u32 x95.2.2.1, .int .i64 x95.2.2.2.1, .int .i64 x95.2.2.2.2.1, .int .i64 x95.2.2.2.2.2.1, .slice x95.2.2.2.2.2.2.1 x95.2.2.2.2.2.2.2.1 x95.2.2.2.2.2.2.2.2], .int .i64 10]) h94) h94) h92) h92)
  (ldAggW [.int .u32, .int .u32, .int .u32, .int .i64, .int .i64, .int .i64, .slice] a78 (fun (x96 : Int × Int × Int × Int × Int × Int × (Option Addr × Nat × Nat)) =>
  stLW a1 [.int .u32 x96.1, .int .u32 x96.2.1, .int .u32 x96.2.2.1, .int .i64 x96.2.2.2.1, .int .i64 x96.2.2.2.2.1, .int .i64 x96.2.2.2.2.2.1, .slice x96.2.2.2.2.2.2.1 x96.2.2.2.2.2.2.2.1 x96.2.2.2.2.2.2.2.2] (fun h97 =>
  ldAggW [.int .u32, .int .u32, .int .u32, .int .i64, .int .i64, .int .i64, .slice] a1 (fun (x98 : Int × Int × Int × Int × Int × Int × (Option Addr × Nat × Nat)) =>
  K (.tuple #[.agg #[.int .u32 x98.1, .int .u32 x98.2.1, .int .u32 x98.2.2.1, .int .i64 x98.2.2.2.1, .int .i64 x98.2.2.2.2.1, .int .i64 x98.2.2.2.2.2.1, .slice x98.2.2.2.2.2.2.1 x98.2.2.2.2.2.2.2.1 x98.2.2.2.2.2.2.2.2], .int .i64 0]) h97) h97) h92) h92)) h80) h79) h77) h27)) h27))) h27) (((some a23), 0, 0), (0 : Int), (0 : Int), (0 : Int)) h24) h22) h5)) h5) h4) h2) h0)
set_option maxRecDepth 100000 in
theorem F18_eq (d_0 : Addr) (zone_1 : Int) (K : Value → Heap → Prop) (h0 : Heap) : funWE Tryz.prog 18 (.seq (.leaf) (.seq (.leaf) (.seq (.seq (.leaf) (.cond (.seq (.leaf) (.leaf)) (.leaf))) (.cut [] (.seq (.leaf) (.cond (.seq (.leaf) (.leaf)) (.leaf))) (.seq (.leaf) (.seq (.leaf) (.seq (.leaf) (.seq (.seq (.leaf) (.block (.loop [(7, .sc .slice), (8, .sc (.int .u32)), (9, .sc (.int .u32)), (10, .sc (.int .i64))] (.seq (.seq (.leaf) (.cond (.leaf) (.leaf))) (.seq (.block (.seq (.leaf) (.cut [(8, .sc (.int .u32)), (9, .sc (.int .u32))] (.seq (.leaf) (.cond (.seq (.leaf) (.leaf)) (.leaf))) (.cut [] (.seq (.leaf) (.cond (.seq (.leaf) (.leaf)) (.leaf))) (.leaf))))) (.leaf)))))) (.seq (.leaf) (.seq (.cut [(162, .sc .bool)] (.draw (odp [0, 1, 2, 3, 4, 5, 6, 7, 8, 9, 10, 11, 12, 13, 14, 15, 16, 17, 18, 19, 20, 21, 22, 23, 24, 25, 26, 27, 28, 29, 30, 31, 32, 33, 34, 35, 36, 37, 39, 38, 40, 41] .nil) []) (.cond (.seq (.leaf) (.leaf)) (.leaf))) (.seq (.leaf) (.leaf)))))))))))) [.pointer (some d_0), .int .i64 zone_1] K h0 = F18 d_0 zone_1 K h0 := by kernel_rfl

-- function 21
set_option maxRecDepth 100000 in
def F21 (d_0 : Addr) (K : Value → Heap → Prop) (h0 : Heap) : Prop := (
  newW (.cells (zeroC Tryz.prog 46) 46) (fun a1 h2 =>
  ldW .bool (Addr.add d_0 4) (fun (x3 : Bool) =>
  br x3
  (stLW a1 [.int .u32 0, .int .u32 0, .int .u32 0, .int .i64 0, .int .i64 0, .int .i64 0, .slice none 0 0] (fun h4 =>
  ldAggW [.int .u32, .int .u32, .int .u32, .int .i64, .int .i64, .int .i64, .slice] a1 (fun (x5 : Int × Int × Int × Int × Int × Int × (Option Addr × Nat × Nat)) =>
  K (.tuple #[.agg #[.int .u32 x5.1, .int .u32 x5.2.1, .int .u32 x5.2.2.1, .int .i64 x5.2.2.2.1, .int .i64 x5.2.2.2.2.1, .int .i64 x5.2.2.2.2.2.1, .slice x5.2.2.2.2.2.2.1 x5.2.2.2.2.2.2.2.1 x5.2.2.2.2.2.2.2.2], .int .i64 7]) h4) h4) h2)
  (ldW .slice (Addr.add d_0 0) (fun (x6 : Option Addr × Nat × Nat) =>
  br (decide ((((x6.2.1 : Nat) : Int)) < (2 : Int)))
  (stLW a1 [.int .u32 0, .int .u32 0, .int .u32 0, .int .i64 0, .int .i64 0, .int .i64 0, .slice none 0 0] (fun h7 =>
  ldAggW [.int .u32, .int .u32, .int .u32, .int .i64, .int .i64, .int .i64, .slice] a1 (fun (x8 : Int × Int × Int × Int × Int × Int × (Option Addr × Nat × Nat)) =>
  K (.tuple #[.agg #[.int .u32 x8.1, .int .u32 x8.2.1, .int .u32 x8.2.2.1, .int .i64 x8.2.2.2.1, .int .i64 x8.2.2.2.2.1, .int .i64 x8.2.2.2.2.2.1, .slice x8.2.2.2.2.2.2.1 x8.2.2.2.2.2.2.2.1 x8.2.2.2.2.2.2.2.2], .int .i64 1]) h7) h7) h2)
  (ldW .slice (Addr.add d_0 0) (fun (x9 : Option Addr × Nat × Nat) =>
  callT Tryz.prog 18 [.pointer (some d_0), .int .i64 (IntKind.wrap .i64 ((((x9.2.1 : Nat) : Int)) - (2 : Int)))] [.agg [.int .u32, .int .u32, .int .u32, .int .i64, .int .i64, .int .i64, .slice], .sc (.int .i64)] (fun (r10 : (Int × Int × Int × Int × Int × Int × (Option Addr × Nat × Nat)) × Int) h11 =>
  newW (.cells (zeroC Tryz.prog 46) 46) (fun a12 h13 =>
  stLW a12 [.int .u32 r10.1.1, .int .u32 r10.1.2.1, .int .u32 r10.1.2.2.1, .int .i64 r10.1.2.2.2.1, .int .i64 r10.1.2.2.2.2.1, .int .i64 r10.1.2.2.2.2.2.1, .slice r10.1.2.2.2.2.2.2.1 r10.1.2.2.2.2.2.2.2.1 r10.1.2.2.2.2.2.2.2.2] (fun h14 =>
  ldW .slice (Addr.add d_0 0) (fun (x15 : Option Addr × Nat × Nat) =>
  callT Tryz.prog 18 [.pointer (some d_0), .int .i64 (IntKind.wrap .i64 ((((x15.2.1 : Nat) : Int)) - (1 : Int)))] [.agg [.int .u32, .int .u32, .int .u32, .int .i64, .int .i64, .int .i64, .slice], .sc (.int .i64)] (fun (r16 : (Int × Int × Int × Int × Int × Int × (Option Addr × Nat × Nat)) × Int) h17 =>
  newW (.cells (zeroC Tryz.prog 46) 46) (fun a18 h19 =>
  stLW a18 [.int .u32 r16.1.1, .int .u32 r16.1.2.1, .int .u32 r16.1.2.2.1, .int .i64 r16.1.2.2.2.1, .int .i64 r16.1.2.2.2.2.1, .int .i64 r16.1.2.2.2.2.2.1, .slice r16.1.2.2.2.2.2.2.1 r16.1.2.2.2.2.2.2.2.1 r16.1.2.2.2.2.2.2.2.2] (fun h20 =>
  br (r10.2 != (0 : Int))
  (ldAggW [.int .u32, .int .u32, .int .u32, .int .i64, .int .i64, .int .i64, .slice] a18 (fun (x21 : Int × Int × Int × Int × Int × Int × (Option Addr × Nat × Nat)) =>
  stLW a1 [.int .u32 x21.1, .int .u32 x21.2.1, .int .u32 x21.2.2.1, .int .i64 x21.2.2.2.1, .int .i64 x21.2.2.2.2.1, .int .i64 x21.2.2.2.2.2.1, .slice x21.2.2.2.2.2.2.1 x21.2.2.2.2.2.2.2.1 x21.2.2.2.2.2.2.2.2] (fun h22 =>
  ldAggW [.int .u32, .int .u32, .int .u32, .int .i64, .int .i64, .int .i64, .slice] a1 (fun (x23 : Int × Int × Int × Int × Int × Int × (Option Addr × Nat × Nat)) =>
  K (.tuple #[.agg #[.int .u32 x23.1, .int .u32 x23.2.1, .int .u32 x23.2.2.1, .int .i64 x23.2.2.2.1, .int .i64 x23.2.2.2.2.1, .int .i64 x23.2.2.2.2.2.1, .slice x23.2.2.2.2.2.2.1 x23.2.2.2.2.2.2.2.1 x23.2.2.2.2.2.2.2.2], .int .i64 r16.2]) h22) h22) h20) h20)
  (cutT [] (fun (K24 : Unit → Heap → Prop) h33 =>
  br (r16.2 != (0 : Int))
  (ldAggW [.int .u32, .int .u32, .int .u32, .int .i64, .int .i64, .int .i64, .slice] a12 (fun (x25 : Int × Int × Int × Int × Int × Int × (Option Addr × Nat × Nat)) =>
  stLW a1 [.int .u32 x25.1, .int .u32 x25.2.1, .int .u32 x25.2.2.1, .int .i64 x25.2.2.2.1, .int .i64 x25.2.2.2.2.1, .int .i64 x25.2.2.2.2.2.1, .slice x25.2.2.2.2.2.2.1 x25.2.2.2.2.2.2.2.1 x25.2.2.2.2.2.2.2.2] (fun h26 =>
  ldAggW [.int .u32, .int .u32, .int .u32, .int .i64, .int .i64, .int .i64, .slice] a1 (fun (x27 : Int × Int × Int × Int × Int × Int × (Option Addr × Nat × Nat)) =>
  K (.tuple #[.agg #[.int .u32 x27.1, .int .u32 x27.2.1, .int .u32 x27.2.2.1, .int .i64 x27.2.2.2.1, .int .i64 x27.2.2.2.2.1, .int .i64 x27.2.2.2.2.2.1, .slice x27.2.2.2.2.2.2.1 x27.2.2.2.2.2.2.2.1 x27.2.2.2.2.2.2.2.2], .int .i64 0]) h26) h26) h33) h33)
  (ldW (.int .u32) (Addr.add a12 0) (fun (x28 : Int) =>
  ldW (.int .u32) (Addr.add a18 0) (fun (x29 : Int) =>
  br (x28 == (IntKind.wrap .u32 (x29 + (1 : Int))))
  (ldAggW [.int .u32, .int .u32, .int .u32, .int .i64, .int .i64, .int .i64, .slice] a12 (fun (x30 : Int × Int × Int × Int × Int × Int × (Option Addr × Nat × Nat)) =>
  stLW a1 [.int .u32 x30.1, .int .u32 x30.2.1, .int .u32 x30.2.2.1, .int .i64 x30.2.2.2.1, .int .i64 x30.2.2.2.2.1, .int .i64 x30.2.2.2.2.2.1, .slice x30.2.2.2.2.2.2.1 x30.2.2.2.2.2.2.2.1 x30.2.2.2.2.2.2.2.2] (fun h31 =>
  ldAggW [.int .u32, .int .u32, .int .u32, .int .i64, .int .i64, .int .i64, .slice] a1 (fun (x32 : Int × Int × Int × Int × Int × Int × (Option Addr × Nat × Nat)) =>
  K (.tuple #[.agg #[.int .u32 x32.1, .int .u32 x32.2.1, .int .u32 x32.2.2.1, .int .i64 x32.2.2.2.1, .int .i64 x32.2.2.2.2.1, .int .i64 x32.2.2.2.2.2.1, .slice x32.2.2.2.2.2.2.1 x32.2.2.2.2.2.2.2.1 x32.2.2.2.2.2.2.2.2], .int .i64 0]) h31) h31) h33) h33)
  (K24 () h33)) h33) h33)) (fun (_s34 : Unit) _ h35 =>
  cutT [.sc .bool] (fun (K36 : Bool → Heap → Prop) h41 =>
  ldW (.int .u32) (Addr.add a18 0) (fun (x37 : Int) =>
  ldW (.int .u32) (Addr.add a12 0) (fun (x38 : Int) =>
  br (x37 == (IntKind.wrap .u32 (x38 + (1 : Int))))
  (K36 true h41)
  (ldW (.int .u32) (Addr.add a18 0) (fun (x39 : Int) =>
  ldW (.int .u32) (Addr.add a12 0) (fun (x40 : Int) =>
  K36 (decide (x39 > x40)) h41) h41) h41)) h41) h41) (fun (s42 : Bool) _ h43 =>
  br s42
  (ldAggW [.int .u32, .int .u32, .int .u32, .int .i64, .int .i64, .int .i64, .slice] a18 (fun (x44 : Int × Int × Int × Int × Int × Int × (Option Addr × Nat × Nat)) =>
  stLW a1 [.int .u32 x44.1, .int .u32 x44.2.1, .int .u32 x44.2.2.1, .int .i64 x44.2.2.2.1, .int .i64 x44.2.2.2.2.1, .int .i64 x44.2.2.2.2.2.1, .slice x44.2.2.2.2.2.2.1 x44.2.2.2.2.2.2.2.1 x44.2.2.2.2.2.2.2.2] (fun h45 =>
  ldAggW [.int .u32, .int .u32, .int .u32, .int .i64, .int .i64, .int .i64, .slice] a1 (fun (x46 : Int × Int × Int × Int × Int × Int × (Option Addr × Nat × Nat)) =>
  K (.tuple #[.agg #[.int .u32 x46.1, .int .u32 x46.2.1, .int .u32 x46.2.2.1, .int .i64 x46.2.2.2.1, .int .i64 x46.2.2.2.2.1, .int .i64 x46.2.2.2.2.2.1, .slice x46.2.2.2.2.2.2.1 x46.2.2.2.2.2.2.2.1 x46.2.2.2.2.2.2.2.2], .int .i64 0]) h45) h45) h43) h43)
  (ldAggW [.int .u32, .int .u32, .int .u32, .int .i64, .int .i64, .int .i64, .slice] a12 (fun (x47 : Int × Int × Int × Int × Int × Int × (Option Addr × Nat × Nat)) =>
  stLW a1 [.int .u32 x47.1, .int .u32 x47.2.1, .int .u32 x47.2.2.1, .int .i64 x47.2.2.2.1, .int .i64 x47.2.2.2.2.1, .int .i64 x47.2.2.2.2.2.1, .slice x47.2.2.2.2.2.2.1 x47.2.2.2.2.2.2.2.1 x47.2.2.2.2.2.2.2.2] (fun h48 =>
  ldAggW [.int .u32, .int .u32, .int .u32, .int .i64, .int .i64, .int .i64, .slice] a1 (fun (x49 : Int × Int × Int × Int × Int × Int × (Option Addr × Nat × Nat)) =>
  K (.tuple #[.agg #[.int .u32 x49.1, .int .u32 x49.2.1, .int .u32 x49.2.2.1, .int .i64 x49.2.2.2.1, .int .i64 x49.2.2.2.2.1, .int .i64 x49.2.2.2.2.2.1, .slice x49.2.2.2.2.2.2.1 x49.2.2.2.2.2.2.2.1 x49.2.2.2.2.2.2.2.2], .int .i64 0]) h48) h48) h43) h43)) h35) h20)) h19) h17) h14) h14) h13) h11) h2) h2)) h2)) h2) h0)
set_option maxRecDepth 100000 in
theorem F21_eq (d_0 : Addr) (K : Value → Heap → Prop) (h0 : Heap) : funWE Tryz.prog 21 (.seq (.leaf) (.seq (.seq (.leaf) (.cond (.seq (.leaf) (.leaf)) (.leaf))) (.seq (.seq (.leaf) (.cond (.seq (.leaf) (.leaf)) (.leaf))) (.seq (.leaf) (.seq (.leaf) (.seq (.seq (.leaf) (.cond (.seq (.leaf) (.leaf)) (.leaf))) (.cut [] (.seq (.leaf) (.cond (.seq (.leaf) (.leaf)) (.leaf))) (.seq (.cut [(69, .sc .bool)] (.leaf) (.cond (.seq (.leaf) (.leaf)) (.leaf))) (.seq (.leaf) (.leaf)))))))))) [.pointer (some d_0)] K h0 = F21 d_0 K h0 := by kernel_rfl

end Go.Proofs.YthimfpkkdhpceaaGreatDoor.W
/-
  The reference of slot: its contracts.
-/
namespace Go.Proofs.YthimfpkkdhpceaaGreatDoor.Slt
open Go.Pl Go.Proofs.YthimfpkkdhpceaaGreatDoor.W Go.Proofs.YthimfpkkdhpceaaGreatDoor.Byts Go.Proofs.YthimfpkkdhpceaaGreatDoor.Four Go.Proofs.YthimfpkkdhpceaaGreatDoor.Adl Go.Proofs.YthimfpkkdhpceaaGreatDoor.As Go.Proofs.YthimfpkkdhpceaaGreatDoor.Err Go.Proofs.YthimfpkkdhpceaaGreatDoor.Head Go.Proofs.YthimfpkkdhpceaaGreatDoor.HdP Go.Proofs.YthimfpkkdhpceaaGreatDoor.Geo Go.Proofs.YthimfpkkdhpceaaGreatDoor.Zns Go.Proofs.YthimfpkkdhpceaaGreatDoor.ZnsP Go.Proofs.YthimfpkkdhpceaaGreatDoor.Ck Go.Proofs.YthimfpkkdhpceaaGreatDoor.Rng
abbrev RRep := DRep LoR
theorem rwhere_ok {k b : Nat} {t : Tags} {D : Dev} (o : DevOk D) (n : Int) (hn : U32 n) (h : Heap) (r : RRep k t h b D) : CallsH Tryz.prog 23 [ptr b, .int .u32 n] h fun v h' => v = .int .i64 (whereS D n) ∧ h' = h := by
  obtain ⟨hn0, hn1⟩ := hn
  obtain ⟨za, c, arr, r⟩ := r
  refine fun_ok Geo.hm' Tryz.func23 (by kernel_rfl) (F23_eq _ _ _ h) ?_
  unfold F23
  have hz := o.zones
  rw [Int.tmod_eq_emod_of_nonneg hn0]
  have e2 : IntKind.wrap .i64 ((D.zs.length : Int) - 2) = (D.zs.length : Int) - 2 := wr64 (by omega) (by omega)
  have e1 : IntKind.wrap .i64 ((D.zs.length : Int) - 1) = (D.zs.length : Int) - 1 := wr64 (by omega) (by omega)
  refine br_of (fun h0 => ld_of (c := .slice) (some ⟨za, 0, none⟩, D.zs.length, c) r.cz ⟨?_, rfl⟩) fun h0 => ld_of (c := .slice) (some ⟨za, 0, none⟩, D.zs.length, c) r.cz ⟨?_, rfl⟩
  · have h0 : n % 2 = 0 := by simpa using h0
    simp only [e2]
    unfold whereS; rw [h0]; congr 1; omega
  · have h0 : ¬ n % 2 = 0 := by simpa using h0
    simp only [e1]
    unfold whereS; congr 1; omega
theorem Outs.stay {h h' : Heap} {base : Nat} {a : Option Addr} {c : Nat} {l : List (List Int)} (r : Outs h base a c l) (hk : ∀ g, base ≤ g → g < h.size → h'[g]? = h[g]?) : Outs h' base a c l := by
  obtain ⟨vs, o, hr⟩ := r
  exact ⟨vs, o.keep fun g _ hg hb _ => hk g hg hb.lt, fun j bs hj => by
    obtain ⟨hB, a', c', e, ow⟩ := hr j bs hj
    exact ⟨hB, a', c', e, ow.keep fun g _ hg hb _ => hk g hg hb.lt⟩⟩
def RActed (k : Nat) (t : Tags) (h : Heap) (b : Nat) (D' : Dev) (h' : Heap) : Prop := ∃ t', RRep k t' h' b D' ∧ Fr (fun p => p.1 ≠ k) t h t' h'
theorem RActed.before {k b : Nat} {t : Tags} {h0 h h' : Heap} {D' : Dev} (a : RActed k (lay t h0.size (0, 0)) h b D' h') (n : New h0 h) : RActed k t h0 b D' h' := by
  obtain ⟨t', r, f⟩ := a
  exact ⟨t', r, (Fr.lay n (0, 0)).trans f⟩
theorem rafter {k b : Nat} {t t1 : Tags} {h h1 h2 : Heap} {D' : Dev} (f : Fr (fun p => p.1 ≠ k) t h t1 h1) (a : RActed k t1 h1 b D' h2) : RActed k t h b D' h2 := by
  obtain ⟨t', r, f'⟩ := a
  exact ⟨t', r, f.trans f'⟩
theorem rstays {k b : Nat} {t : Tags} {h : Heap} {D : Dev} (r : RRep k t h b D) : RActed k t h b D h := ⟨t, r, Fr.refl _ _ _⟩
theorem RRep.lay {k b : Nat} {t : Tags} {h h' : Heap} {D : Dev} (r : RRep k t h b D) (n : New h h') : RRep k (Pl.lay t h.size (0, 0)) h' b D := r.fr (S := fun _ => True) (Fr.lay n _) (fun _ _ => trivial) fun _ => trivial
def RWriteP (k b : Nat) (t : Tags) (D : Dev) (c : Chk) (h : Heap) (v : Value) (h' : Heap) : Prop := v = .int .i64 (writeS D c).2 ∧ RActed k t h b (writeS D c).1 h'
theorem rwrite_ok {k b : Nat} {t : Tags} {D : Dev} (hk : k ≠ 0) (o : DevOk D) (c : Chk) (oc : ChkOk c) (da : Option Addr) (dc : Nat) (h : Heap) (r : RRep k t h b D) (hd : Ar .u32 h da c.dir) :
    CallsH Tryz.prog 14 [ptr b, chkV c da dc] h (RWriteP k b t D c h) := by
  refine fun_ok Geo.hm' Tryz.func14 (by kernel_rfl) (F14_eq _ _ _ _ _ _ _ _ _ _ _ h) ?_
  unfold F14
  have hzs := o.zones
  refine new_of fun h1 b1 n1 s1 => ldChk b1 (call_of (rblocks_ok c oc da dc h1 (hd.new n1)) ?_)
  have b1 : Blk h1 h.size (chkA c da dc) 46 := b1
  rintro v h2 ⟨la, lc, rfl, ot, n2⟩
  have n02 := n1.trans n2
  have b2 := b1.new n2
  have r2 := r.new n02
  have no : ((blocksC c).2 ≠ 0 ∨ c.z ≠ (D.zs.length : Int) ∨ c.p ≠ (D.P : Int)) → RWriteP k b t D c h (.int .i64 1) h2 := fun hn => by
    have e : writeS D c = (D, 1) := by unfold writeS; rw [if_pos hn]
    unfold RWriteP
    rw [e]
    exact ⟨rfl, t, r2, Fr.new0 n02⟩
  refine ⟨((la, (blocksC c).1.length, lc), (blocksC c).2), rfl, cut_q (ts := []) (fun _ h' => h' = h2 ∧ ¬ ((blocksC c).2 ≠ 0 ∨ c.z ≠ (D.zs.length : Int) ∨ c.p ≠ (D.P : Int))) ?_ ?_⟩
  rotate_left
  · intro K hK
    obtain ⟨za, zc, arr, rd⟩ := r2
    refine br_of (fun h1 => no (.inl (by simpa using h1))) fun h1 => ld_of (c := .int .i64) c.z (by rw [add_mk, add_mk, cellH_blk b2]; rfl) (ld_of (c := .slice) (some ⟨za, 0, none⟩, D.zs.length, zc) rd.cz (br_of (fun h3 => no (.inr (.inl (by simpa using h3)))) fun h3 => ld_of (c := .int .i64) c.p (by rw [add_mk, add_mk, cellH_blk b2]; rfl) (ld_of (c := .int .i64) (D.P : Int) rd.cP (br_of (fun h4 => no (.inr (.inr (by simpa using h4)))) fun h4 => hK () _ ⟨rfl, ?_⟩))))
    have h1 : (blocksC c).2 = 0 := by simpa using h1
    have h3 : c.z = (D.zs.length : Int) := by simpa using h3
    have h4 : c.p = (D.P : Int) := by simpa using h4
    rintro (x | x | x)
    · exact x h1
    · exact x h3
    · exact x h4
  rintro _ h' ⟨hh, hno⟩ _; subst h'
  have cN : ∀ hx, Blk hx h.size (chkA c da dc) 46 → cellH hx (Addr.add ⟨h.size, 0, none⟩ 0) = some (.int .u32 c.num) := fun hx bx => by rw [add_mk, cellH_blk bx]; rfl
  refine ld_of (c := .int .u32) c.num (cN _ b2) (call_of (rwhere_ok o c.num oc.num h2 r2) ?_)
  rintro v h' ⟨rfl, hh⟩; subst h'
  have r2t := RRep.lay r n02
  refine ⟨whereS D c.num, rfl, call_of (ZnsR.reset_ok o (whereS D c.num) h2 r2t) ?_⟩
  rintro v h3 ⟨rfl, t3, r3, f3⟩
  refine ⟨(D.reset (whereS D c.num)).2, rfl, ?_⟩
  have r3 : RRep k t3 h3 b (D.reset (whereS D c.num)).1 := r3
  have hlow : ∀ q, h.size ≤ q → (lay t h.size (0, 0) q).1 ≠ k := fun q hq => by rw [lay_ge hq]; exact fun e => hk e.symm
  have b3 : Blk h3 h.size (chkA c da dc) 46 := f3.blk b2 (hlow _ (Nat.le_refl _))
  have hbl := blocks_len c
  have hby := blocks_byt c
  have t3h : ∀ q, h.size ≤ q → q < h2.size → (t3 q).1 ≠ k := fun q h1 h2' => by rw [f3.tags q h2']; exact hlow q h1
  have h2s := n02.size
  have hs1 := n1.size
  -- what has come of it so far
  have code0 : (D.reset (whereS D c.num)).2 = 0 → writeS D c = if (appS (whereS D c.num) c.ses c.num (D.reset (whereS D c.num)).1 0 (blocksC c).1).2 ≠ 0 then appS (whereS D c.num) c.ses c.num (D.reset (whereS D c.num)).1 0 (blocksC c).1 else (appS (whereS D c.num) c.ses c.num (D.reset (whereS D c.num)).1 0 (blocksC c).1).1.flush := fun he => by
    unfold writeS; rw [if_neg hno, if_neg (fun h => h he)]
  have code1 : (D.reset (whereS D c.num)).2 ≠ 0 → writeS D c = D.reset (whereS D c.num) := fun he => by
    unfold writeS; rw [if_neg hno, if_pos he]
  have o3 := o.reset (whereS D c.num)
  generalize hR : D.reset (whereS D c.num) = R at *
  generalize whereS D c.num = w at *
  refine ⟨fun (s : Int × Int) h' => ∃ i : Nat, s.2 = i ∧ i ≤ (blocksC c).1.length ∧ ∃ D' t', RRep k t' h' b D' ∧ DevOk D' ∧ Fr (fun p => p.1 ≠ k) t3 h3 t' h' ∧ (s.1 = 0 → R.2 = 0 ∧ appS w c.ses c.num R.1 0 (blocksC c).1 = appS w c.ses c.num D' i ((blocksC c).1.drop i)) ∧ (s.1 ≠ 0 → writeS D c = (D', s.1)), fun (s : Int × Int) _ => (((blocksC c).1.length : Int) - s.2).toNat, ⟨0, rfl, Nat.zero_le _, R.1, t3, r3, o3, Fr.refl _ _ _, fun h => ⟨h, rfl⟩, fun h => code1 h⟩, ?_⟩
  rintro (⟨e, s⟩ : Int × Int) j h4 ⟨i, hs, hi, D4, t4, r4, o4, f4, hz, hnz⟩
  have hs : s = (i : Int) := hs
  have hz : e = 0 → R.2 = 0 ∧ appS w c.ses c.num R.1 0 (blocksC c).1 = appS w c.ses c.num D4 i ((blocksC c).1.drop i) := hz
  have hnz : e ≠ 0 → writeS D c = (D4, e) := hnz
  subst hs
  have b4 : Blk h4 h.size (chkA c da dc) 46 := f4.blk b3 (t3h _ (Nat.le_refl _) b2.lt)
  have ot4 : Outs h4 h1.size la lc (blocksC c).1 := Outs.stay ot fun g hg hl => (f4.same g (by have := f3.size; omega) (t3h g (by omega) hl)).trans (f3.same g hl (hlow g (by omega)))
  have A4 : RActed k t h b D4 h4 := RActed.before (rafter f3 (rafter f4 (rstays r4))) n02
  have err : e ≠ 0 → RWriteP k b t D c h (.int .i64 e) h4 := fun he => by
    unfold RWriteP
    rw [hnz he]
    exact ⟨rfl, A4⟩
  have fl : e = 0 → i = (blocksC c).1.length → callT Tryz.prog 44 [ptr b] [.sc (.int .i64)] (fun (r23 : Int) h24 => RWriteP k b t D c h (.int .i64 r23) h24) h4 := fun he hi2 => by
    obtain ⟨h5, h6⟩ := hz he
    subst hi2
    rw [List.drop_of_length_le (Nat.le_refl _)] at h6
    have e5 : appS w c.ses c.num D4 (blocksC c).1.length [] = (D4, 0) := rfl
    rw [e5] at h6
    have e0 := code0 h5
    rw [h6, if_neg (fun h => h rfl)] at e0
    refine call_of (ZnsR.flush_ok o4 h4 r4) ?_
    rintro v h5 ⟨rfl, t5, r5, f5⟩
    refine ⟨D4.flush.2, rfl, ?_⟩
    unfold RWriteP
    rw [e0]
    exact ⟨rfl, RActed.before (rafter f3 (rafter (f4.trans f5) (rstays r5))) n02⟩
  refine cut_q (ts := []) (fun _ h' => h' = h4 ∧ i < (blocksC c).1.length ∧ e = 0) ?_ ?_
  rotate_left
  · intro K hK
    refine br_of (fun hlt => ?_) fun hlt => ?_
    · have hlt : (i : Int) < ((blocksC c).1.length : Int) := of_decide_eq_true hlt
      refine br_of (fun he => hK () _ ⟨rfl, by omega, by simpa using he⟩) fun he => br_t ?_ (err (by simpa using he))
      have he : ¬ e = 0 := by simpa using he
      simp [he]
    · have hlt : ¬ (i : Int) < ((blocksC c).1.length : Int) := of_decide_eq_false hlt
      refine br_of (fun he => err (by simpa using he)) fun he => fl (by simpa using he) (by omega)
  rintro _ h' ⟨hh, hiL, rfl⟩ _; subst h'
  obtain ⟨h5, h6⟩ := hz rfl
  have ez1 : IntKind.wrap .i64 ((i : Int) + 1) = ((i + 1 : Nat) : Int) := (by first | (rw [wr64 (by omega) (by omega)]; omega) | (simp only [IntKind.wrap_i64]; omega))
  have ei : IntKind.wrap .u32 (i : Int) = (i : Int) := by rw [wru32]; omega
  refine ld_of (c := .int .u32) c.ses (by rw [add_mk, cellH_blk b4]; rfl) (ld_of (c := .int .u32) c.num (cN _ b4) ?_)
  refine ot4.rb.ld hiL hiL fun a' c' sb => ?_
  rw [ei]
  have hho : HdOk (5, c.ses, (i : Int), c.num) := ⟨⟨(by first | omega | (dsimp only; omega) | (simp only []; omega)), (by first | omega | (dsimp only; omega) | (simp only []; omega))⟩, oc.ses, ⟨(by first | omega | (dsimp only; omega) | (simp only []; omega)), (by first | omega | (dsimp only; omega) | (simp only []; omega))⟩, oc.num⟩
  have h16 : (blocksC c).1[i].length = 16 := by
    have hr : rightC c = true := by
      cases hr : rightC c with
      | true => rfl
      | false => exact (hno (.inl (by unfold blocksC; rw [if_pos hr]; decide))).elim
    have hm : (blocksC c).1[i] ∈ (blocksC c).1 := List.getElem_mem hiL
    generalize (blocksC c).1[i] = y at hm ⊢
    have eb : blocksC c = (chunks (manyN c.b) (bytesC c), 0) := by unfold blocksC; rw [if_neg (by rw [hr]; simp)]
    rw [eb] at hm
    exact chunks_each (bytes_len hr) y hm
  refine call_of (R4.bytes_ok (5, c.ses, (i : Int), c.num) hho a' c' (blocksC c).1[i] h4 sb) ?_
  rintro v h5' ⟨a5, c5, rfl, g5⟩
  rw [pg_bytes c.ses c.num i h16] at g5 ⊢
  refine ⟨((a5, (pg c.ses c.num i (blocksC c).1[i]).length, c5), (0 : Int)), rfl, ?_⟩
  have hpl : (pg c.ses c.num i (blocksC c).1[i]).length = 33 := pageL_len _ h16
  have n45 := g5.new
  have r5 := RRep.lay r4 n45
  have im5 : Im .u8 (lay t4 h4.size (0, 0)) h5' a5 (pg c.ses c.num i (blocksC c).1[i]) := ⟨g5.ar, fun hx q hq => by have := g5.at_ hx q hq; rw [lay_ge (by omega)]⟩
  refine call_of (ZnsR.append_ok o4 w a5 c5 (pg c.ses c.num i (blocksC c).1[i]) h5' r5 (by omega) im5) ?_
  rintro v h6' ⟨rfl, t6, r6, f6⟩
  refine ⟨((D4.append w (pg c.ses c.num i (blocksC c).1[i])).2.1, (D4.append w (pg c.ses c.num i (blocksC c).1[i])).2.2), rfl, ?_⟩
  have f46 := (Fr.lay n45 (0, 0)).trans f6
  have f36 := f4.trans f46
  have edrop : (blocksC c).1.drop i = (blocksC c).1[i] :: (blocksC c).1.drop (i + 1) := List.drop_eq_getElem_cons hiL
  rw [edrop] at h6
  have o6 := o4.append w (b := pg c.ses c.num i (blocksC c).1[i]) (pageL_byt hho sb.byt)
  generalize (blocksC c).1[i] = bl at *
  simp only [ez1]
  refine ⟨⟨i + 1, rfl, hiL, (D4.append w (pg c.ses c.num i bl)).1, t6, r6, o6, f36, fun he => ⟨h5, ?_⟩, fun he => ?_⟩, (by first | omega | (dsimp only; omega) | (simp only []; omega))⟩
  · have he : (D4.append w (pg c.ses c.num i bl)).2.2 = 0 := he
    rw [h6, appS, if_neg (fun h => h he)]
  · have he : (D4.append w (pg c.ses c.num i bl)).2.2 ≠ 0 := he
    rw [code0 h5, h6, appS, if_pos he, if_pos he]
end Go.Proofs.YthimfpkkdhpceaaGreatDoor.Slt
/-
  The reference of slot: Read, Newest.
-/
namespace Go.Proofs.YthimfpkkdhpceaaGreatDoor.Slt
open Go.Pl Go.Proofs.YthimfpkkdhpceaaGreatDoor.W Go.Proofs.YthimfpkkdhpceaaGreatDoor.Byts Go.Proofs.YthimfpkkdhpceaaGreatDoor.Four Go.Proofs.YthimfpkkdhpceaaGreatDoor.Adl Go.Proofs.YthimfpkkdhpceaaGreatDoor.As Go.Proofs.YthimfpkkdhpceaaGreatDoor.Err Go.Proofs.YthimfpkkdhpceaaGreatDoor.Head Go.Proofs.YthimfpkkdhpceaaGreatDoor.HdP Go.Proofs.YthimfpkkdhpceaaGreatDoor.Geo Go.Proofs.YthimfpkkdhpceaaGreatDoor.Zns Go.Proofs.YthimfpkkdhpceaaGreatDoor.ZnsP Go.Proofs.YthimfpkkdhpceaaGreatDoor.Ck Go.Proofs.YthimfpkkdhpceaaGreatDoor.Rng
theorem zeroH4 : zeroC Tryz.prog 99 = hdA (0, 0, 0, 0) := by kernel_rfl
def RReadSP (D : Dev) (zone : Int) (h : Heap) (v : Value) (h' : Heap) : Prop := ∃ da dc, v = .tuple #[chkV (readS D zone).1 da dc, .int .i64 (readS D zone).2] ∧ OwnH h' h.size 35 1 da (readS D zone).1.dir.length dc ((readS D zone).1.dir.map (Value.int .u32)) ∧ New h h'
theorem im_sl {t : Tags} {h : Heap} {a : Option Addr} {c : Nat} {xs : List Int} (im : Im .u8 t h a xs) (cp : Cp a xs.length c) (hb : Byt xs) : Sl8 h a c xs := ⟨im.ar, cp.1, cp.2.1, cp.2.2, hb⟩
theorem rsread_ok {k b : Nat} {t : Tags} {D : Dev} (o : DevOk D) (zone : Int) (h : Heap) (r : RRep k t h b D) :
    CallsH Tryz.prog 18 [ptr b, .int .i64 zone] h (RReadSP D zone h) := by
  refine fun_ok Geo.hm' Tryz.func18 (by kernel_rfl) (F18_eq _ _ _ h) ?_
  unfold F18
  have hzs := o.zones
  refine new_of fun h1 b1 n1 s1 => ?_
  rw [zeroR6] at b1
  refine new_stL (by rw [zeroR6]; rfl) fun h2 b2 n2 s2 => ?_
  have b2 : Blk h2 h1.size (chkA ck0 none 0) 46 := b2
  have b12 := b1.new n2
  have n02 := n1.trans n2
  have hl12 : h.size < h1.size := by omega
  -- what there is none of
  have err : ∀ (hx : Heap) (e : Int), readS D zone = (ck0, e) → New h2 hx →
      ldAggW ChkY ⟨h1.size, 0, none⟩ (fun (x : ChkC) => stLW ⟨h.size, 0, none⟩ [.int .u32 x.1, .int .u32 x.2.1, .int .u32 x.2.2.1, .int .i64 x.2.2.2.1, .int .i64 x.2.2.2.2.1, .int .i64 x.2.2.2.2.2.1, .slice x.2.2.2.2.2.2.1 x.2.2.2.2.2.2.2.1 x.2.2.2.2.2.2.2.2] (fun h8 =>
        ldAggW ChkY ⟨h.size, 0, none⟩ (fun (x9 : ChkC) => RReadSP D zone h (outC x9 (.int .i64 e)) h8) h8) hx) hx := by
    intro hx e hr nx
    refine ldChk (b2.new nx) (put_out (K := RReadSP D zone h) (c := ck0) (da := none) (dc := 0) (b12.new nx) rfl fun h' o' => ?_)
    unfold RReadSP
    rw [hr]
    exact ⟨none, 0, rfl, OwnH.nil _ _ _ _, o'.upd.new (n02.trans nx) (Nat.le_refl _)⟩
  obtain ⟨za, zc, arr, r2⟩ := r.new n02
  refine ld_of (c := .bool) D.down r2.cd (br_of (fun hd => err h2 7 (by unfold readS; rw [if_pos hd]) (New.refl _)) fun hd => ?_)
  have arg : ((D.zs.length : Int) < 2 ∨ zone < (D.zs.length : Int) - 2 ∨ zone ≥ (D.zs.length : Int)) → readS D zone = (ck0, 1) := fun h => by unfold readS; rw [if_neg (by rw [hd]; simp), if_pos h]
  have e1 : IntKind.wrap .i64 ((D.zs.length : Int) - 1) = (D.zs.length : Int) - 1 := wr64 (by omega) (by omega)
  have e2 : IntKind.wrap .i64 ((D.zs.length : Int) - 2) = (D.zs.length : Int) - 2 := wr64 (by omega) (by omega)
  refine cut_q (ts := []) (fun _ h' => h' = h2 ∧ ¬ ((D.zs.length : Int) < 2 ∨ zone < (D.zs.length : Int) - 2 ∨ zone ≥ (D.zs.length : Int))) ?_ ?_
  rotate_left
  · intro K hK
    refine ld_of (c := .slice) (some ⟨za, 0, none⟩, D.zs.length, zc) r2.cz (br_of (fun h3 => err h2 1 (arg (.inl (of_decide_eq_true h3))) (New.refl _)) fun h3 => ld_of (c := .slice) (some ⟨za, 0, none⟩, D.zs.length, zc) r2.cz ?_)
    have h3 : ¬ (D.zs.length : Int) < 2 := of_decide_eq_false h3
    simp only [e1]
    refine br_of (fun h4 => ld_of (c := .slice) (some ⟨za, 0, none⟩, D.zs.length, zc) r2.cz ?_) fun h4 => hK () _ ⟨rfl, ?_⟩
    · have h4 : ¬ zone = (D.zs.length : Int) - 1 := by simpa using h4
      simp only [e2]
      refine br_of (fun h5 => err h2 1 (arg ?_) (New.refl _)) fun h5 => hK () _ ⟨rfl, ?_⟩
      · have h5 : ¬ zone = (D.zs.length : Int) - 2 := by simpa using h5
        omega
      · have h5 : zone = (D.zs.length : Int) - 2 := by simpa using h5
        omega
    · have h4 : zone = (D.zs.length : Int) - 1 := by simpa using h4
      omega
  rintro _ h' ⟨hh, hzn⟩ _; subst h'
  obtain ⟨zn, rfl⟩ := Int.eq_ofNat_of_zero_le (show 0 ≤ zone by omega)
  have hzl : zn < D.zs.length := by omega
  have hat : D.at_ (zn : Int) = D.zs[zn] := at_of hzl
  have hPlen : D.zs[zn].pages.length ≤ 16 := o.len hzl
  have hbyt : ∀ q ∈ D.zs[zn].pages, Byt q := fun q hq => ((o.zone _ (List.getElem_mem hzl)).page q hq).1
  refine new_of fun h3 b3 n3 s3 => ?_
  have o3 : OwnH h3 h2.size 68 1 (some ⟨h2.size, 0, none⟩) 0 0 [] := OwnH.of_blk (base := h2.size) b3 (Nat.le_refl _) rfl (Nat.zero_le _)
  have hrs : readS D (zn : Int) = if badS D (zn : Int) D.zs[zn].pages then (ck0, 10) else ((readC (heldS D.zs[zn].pages)).1, 0) := by
    unfold readS
    rw [if_neg (by rw [hd]; simp), if_neg hzn, hat]
  have rall : ∀ hx, New h2 hx → RRep k t hx b D := fun hx nx => (r.new n02).new nx
  generalize hP : D.zs[zn].pages = P at *
  refine ⟨fun (s : (Option Addr × Nat × Nat) × Int × Int × Int) h' => ∃ (i : Nat) (pre : List (List Int)), s.2.2.2 = i ∧ i ≤ P.length ∧ s.1.2.1 = i ∧ pre.length = i ∧ heldS P = pre ++ colS (firstS P).2.1 (firstS P).2.2.2 i (P.drop i) ∧ (i = 0 → s.2.1 = 0 ∧ s.2.2.1 = 0) ∧ (i ≠ 0 → s.2.1 = (firstS P).2.1 ∧ s.2.2.1 = (firstS P).2.2.2) ∧ RowsA h' h2.size s.1.1 s.1.2.2 pre ∧ New h2 h', fun (s : (Option Addr × Nat × Nat) × Int × Int × Int) _ => ((P.length : Int) - s.2.2.2).toNat, ⟨0, [], rfl, Nat.zero_le _, rfl, rfl, rfl, fun _ => ⟨rfl, rfl⟩, fun h => (h rfl).elim, ⟨[], o3, fun j bs hj => by simp at hj⟩, n3⟩, ?_⟩
  rintro (⟨⟨la, ln, lc⟩, ses, seq, s⟩ : (Option Addr × Nat × Nat) × Int × Int × Int) j h4 ⟨i, pre, hs, hi, hln, hpre, hheld, hz0, hz1, rows, n24⟩
  have hs2 : s = (i : Int) := hs
  have hln2 : ln = i := hln
  have hz0' : i = 0 → ses = 0 ∧ seq = 0 := hz0
  have hz1' : i ≠ 0 → ses = (firstS P).2.1 ∧ seq = (firstS P).2.2.2 := hz1
  have rows' : RowsA h4 h2.size la lc pre := rows
  clear hs hln hz0 hz1 rows
  subst hs2; subst hln2
  obtain ⟨za4, zc4, arr4, r4⟩ := rall h4 n24
  obtain ⟨pa, pd, prow, pc0, _, _, _⟩ := ZnsR.RD.at0 r4 hzl
  rw [hP] at prow pc0
  refine ld_of (c := .slice) (some ⟨za4, 0, none⟩, D.zs.length, zc4) r4.cz (ptr_of (ix_of hzl (ld_of (c := .slice) (pa, P.length, pd) pc0 ?_)))
  refine br_of (fun hlt => ?_) fun hlt => ?_
  · have hlt : (ln : Int) < (P.length : Int) := of_decide_eq_true hlt
    have hiP : ln < P.length := by omega
    obtain ⟨ga, gc, gim, gcp, gld⟩ := prow.ldc hiP
    have hdrop : P.drop ln = P[ln] :: P.drop (ln + 1) := List.drop_eq_getElem_cons hiP
    have hpi : P[ln]? = some P[ln] := List.getElem?_eq_getElem hiP
    have hb := hbyt _ (List.getElem_mem hiP)
    rw [hdrop] at hheld
    refine ld_of (c := .slice) (some ⟨za4, 0, none⟩, D.zs.length, zc4) r4.cz (ptr_of (ix_of hzl (ld_of (c := .slice) (pa, P.length, pd) pc0 (gld hiP ?_))))
    generalize P[ln] = p at *
    refine call_of (R4.read_ok ga gc p h4 (im_sl gim gcp hb)) ?_
    rintro v h5 ⟨a5, c5, rfl, g5⟩
    refine ⟨((readF p).1, (a5, (readF p).2.1.length, c5), (readF p).2.2), rfl, new_stL (by rw [zeroH4]; rfl) fun h6 b6 n6 s6 => ?_⟩
    have b6 : Blk h6 h5.size (hdA (readF p).1) 99 := b6
    have n46 := g5.new.trans n6
    have n26 := n24.trans n46
    refine cut_q (ts := [.sc (.int .u32), .sc (.int .u32)]) (fun (s : Int × Int) h' => h' = h6 ∧ s = ((firstS P).2.1, (firstS P).2.2.2)) ?_ ?_
    rotate_left
    · intro K hK
      refine br_of (fun h0 => ?_) fun h0 => hK _ _ ⟨rfl, ?_⟩
      · have h0 : ln = 0 := by
          have h0 : (ln : Int) = 0 := by simpa using h0
          omega
        have hf := first_ok hpi h0
        rw [hf] at hK
        exact ld_of (c := .int .u32) (readF p).1.2.1 (by rw [add_mk, cellH_blk b6]; rfl) (ld_of (c := .int .u32) (readF p).1.2.2.2 (by rw [add_mk, cellH_blk b6]; rfl) (hK _ _ ⟨rfl, rfl⟩))
      · have h0 : ¬ (ln : Int) = 0 := by simpa using h0
        obtain ⟨q1, q2⟩ := hz1' (by omega)
        show (ses, seq) = _
        rw [q1, q2]
    rintro _ h' ⟨hh, rfl⟩ _; subst h'
    have idx : IntKind.wrap .u32 (ln : Int) = (ln : Int) := by rw [wru32]; omega
    have badif : ¬ ((readF p).2.2 = 0 ∧ (readF p).1 = (5, (firstS P).2.1, (ln : Int), (firstS P).2.2.2)) → readS D (zn : Int) = (ck0, 10) := fun hh => by
      have e5 : colS (firstS P).2.1 (firstS P).2.2.2 ln (p :: P.drop (ln + 1)) = [] := by rw [colS, if_neg hh]
      rw [e5, List.append_nil] at hheld
      rw [hrs, if_pos (.inr (.inl (by rw [hheld, hpre]; omega)))]
    have c0 : cellH h6 (Addr.add ⟨h5.size, 0, none⟩ 0) = some (.int .u8 (readF p).1.1) := by rw [add_mk, cellH_blk b6]; rfl
    have c1 : cellH h6 (Addr.add ⟨h5.size, 0, none⟩ 1) = some (.int .u32 (readF p).1.2.1) := by rw [add_mk, cellH_blk b6]; rfl
    have c2 : cellH h6 (Addr.add ⟨h5.size, 0, none⟩ 2) = some (.int .u32 (readF p).1.2.2.1) := by rw [add_mk, cellH_blk b6]; rfl
    have c3 : cellH h6 (Addr.add ⟨h5.size, 0, none⟩ 3) = some (.int .u32 (readF p).1.2.2.2) := by rw [add_mk, cellH_blk b6]; rfl
    refine cut_q (ts := []) (fun _ h' => h' = h6 ∧ ((readF p).2.2 = 0 ∧ (readF p).1 = (5, (firstS P).2.1, (ln : Int), (firstS P).2.2.2))) ?_ ?_
    rotate_left
    · intro K hK
      simp only [idx]
      refine br_of (fun q0 => err h6 10 (badif fun hh => by rw [hh.1] at q0; simp at q0) n26) fun q0 => ld_of (c := .int .u8) (readF p).1.1 c0 (br_of (fun q1 => err h6 10 (badif fun hh => by rw [hh.2] at q1; simp at q1) n26) fun q1 => ld_of (c := .int .u32) (readF p).1.2.2.1 c2 (br_of (fun q2 => err h6 10 (badif fun hh => by rw [hh.2] at q2; simp at q2) n26) fun q2 => ld_of (c := .int .u32) (readF p).1.2.1 c1 (br_of (fun q3 => err h6 10 (badif fun hh => by rw [hh.2] at q3; simp at q3) n26) fun q3 => ld_of (c := .int .u32) (readF p).1.2.2.2 c3 (br_of (fun q4 => err h6 10 (badif fun hh => by rw [hh.2] at q4; simp at q4) n26) fun q4 => hK () _ ⟨rfl, ?_⟩))))
      have q0 : (readF p).2.2 = 0 := by simpa using q0
      have q1 : (readF p).1.1 = 5 := by simpa using q1
      have q2 : (readF p).1.2.2.1 = (ln : Int) := by simpa using q2
      have q3 : (readF p).1.2.1 = (firstS P).2.1 := by simpa using q3
      have q4 : (readF p).1.2.2.2 = (firstS P).2.2.2 := by simpa using q4
      refine ⟨q0, ?_⟩
      rw [← q1, ← q2, ← q3, ← q4]
    rintro _ h' ⟨hh, hok⟩ _; subst h'
    have e5 : colS (firstS P).2.1 (firstS P).2.2.2 ln (p :: P.drop (ln + 1)) = (readF p).2.1 :: colS (firstS P).2.1 (firstS P).2.2.2 (ln + 1) (P.drop (ln + 1)) := by rw [colS, if_pos hok]
    rw [e5] at hheld
    have sb : Sl8 h6 a5 c5 (readF p).2.1 := (Sl8.got g5 (Slt.readF_byt hb)).new n6
    have rows6 := rows'.new n46
    have hlt4 : ∀ q, blkOf la = some q → q < h4.size := fun q hq => by
      obtain ⟨vs, ow, _⟩ := rows'
      exact (ow.blk_ge q hq).2
    have ez : IntKind.wrap .i64 ((ln : Int) + 1) = ((ln + 1 : Nat) : Int) := (by first | (rw [wr64 (by omega) (by omega)]; omega) | (simp only [IntKind.wrap_i64]; omega))
    subst hpre
    refine rows6.push sb (fun hx g hg => ⟨by have := g5.at_ hx g hg; have := n24.size; omega, fun e => by have := g5.at_ hx g hg; have := hlt4 g e; omega⟩) (by omega) (Nat.le_trans n24.size n46.size) fun a' c' h' rr u ge => ?_
    refine ⟨⟨pre.length + 1, pre ++ [(readF p).2.1], ez, hiP, rfl, by simp, by rw [hheld, List.append_assoc]; rfl, fun h => by omega, fun _ => ⟨rfl, rfl⟩, rr, u.grow n26 ge⟩, ?_⟩
    simp only [ez]
    omega
  have hlt : ¬ (ln : Int) < (P.length : Int) := of_decide_eq_false hlt
  have hiP : ln = P.length := by omega
  subst hiP
  have hnil : colS (firstS P).2.1 (firstS P).2.2.2 P.length (P.drop P.length) = [] := by rw [List.drop_of_length_le (Nat.le_refl _)]; rfl
  rw [hnil, List.append_nil] at hheld
  have hss : ses = (firstS P).2.1 ∧ seq = (firstS P).2.2.2 := by
    by_cases h0 : P.length = 0
    · obtain ⟨q1, q2⟩ := hz0' h0
      have : P = [] := List.eq_nil_of_length_eq_zero h0
      rw [q1, q2, this]
      exact ⟨rfl, rfl⟩
    · exact hz1' h0
  obtain ⟨rfl, rfl⟩ := hss
  subst hheld
  have hrr := rread_ok la lc (heldS P) h4 rows'.rb (by omega)
  rw [hpre] at hrr
  refine call_of hrr ?_
  rintro v h5 ⟨da, dc, rfl, o5, n5⟩
  refine ⟨(chkC (readC (heldS P)).1 da dc, (readC (heldS P)).2), rfl, new_stL (by rw [zeroR6]; rfl) fun h6 b6 n6 s6 => ?_⟩
  have b6 : Blk h6 h5.size (chkA (readC (heldS P)).1 da dc) 46 := b6
  have n46 := n5.trans n6
  have n26 := n24.trans n46
  have hcb := col_byt (firstS P).2.1 (firstS P).2.2.2 P 0 hbyt
  have ock : ChkOk (readC (heldS P)).1 := readC_ok fun b hb => (hcb b hb).1
  have hfs : U32 (firstS P).2.2.2 := by
    cases hx : P with
    | nil => exact ⟨by decide, by decide⟩
    | cons q qs => exact (readF_ok (hbyt q (by rw [hx]; simp))).q
  obtain ⟨za6, zc6, arr6, r6⟩ := rall h6 n26
  have c0 : cellH h6 (Addr.add (Addr.add ⟨h5.size, 0, none⟩ 3) 0) = some (.int .i64 (readC (heldS P)).1.z) := by rw [add_mk, add_mk, cellH_blk b6]; rfl
  have c1 : cellH h6 (Addr.add (Addr.add ⟨h5.size, 0, none⟩ 3) 1) = some (.int .i64 (readC (heldS P)).1.p) := by rw [add_mk, add_mk, cellH_blk b6]; rfl
  have cn : cellH h6 (Addr.add ⟨h5.size, 0, none⟩ 0) = some (.int .u32 (readC (heldS P)).1.num) := by rw [add_mk, cellH_blk b6]; rfl
  have cs : cellH h6 (Addr.add ⟨h5.size, 0, none⟩ 1) = some (.int .u32 (readC (heldS P)).1.ses) := by rw [add_mk, cellH_blk b6]; rfl
  refine cut_q (ts := [.sc .bool]) (fun s h' => s = decide (badS D (zn : Int) P) ∧ h' = h6) ?_ ?_
  rotate_left
  · intro K hK
    have yes : badS D (zn : Int) P → K true h6 := fun hb => hK _ _ ⟨(decide_eq_true hb).symm, rfl⟩
    refine br_of (fun he => yes (.inl (by simpa using he))) fun he => ?_
    refine ld_of (c := .int .u32) (readC (heldS P)).1.num cn (br_of (fun q => yes (.inr (.inr (.inl (by simpa using q))))) fun q2 => ?_)
    refine ld_of (c := .int .u32) (readC (heldS P)).1.ses cs (br_of (fun q => yes (.inr (.inr (.inr (.inl (by simpa using q)))))) fun q3 => ?_)
    refine ld_of (c := .int .i64) (readC (heldS P)).1.z c0 (ld_of (c := .slice) (some ⟨za6, 0, none⟩, D.zs.length, zc6) r6.cz (br_of (fun q => yes (.inr (.inr (.inr (.inr (.inl (by simpa using q))))))) fun q4 => ?_))
    refine ld_of (c := .int .i64) (readC (heldS P)).1.p c1 (ld_of (c := .int .i64) (D.P : Int) r6.cP (br_of (fun q => yes (.inr (.inr (.inr (.inr (.inr (.inl (by simpa using q)))))))) fun q5 => ?_))
    refine call_of (rwhere_ok o (firstS P).2.2.2 hfs h6 (rall h6 n26)) ?_
    rintro v h' ⟨rfl, hh⟩; subst h'
    refine ⟨whereS D (firstS P).2.2.2, rfl, hK _ _ ⟨?_, rfl⟩⟩
    have he : (readC (heldS P)).2 = 0 := by simpa using he
    have q2 : (readC (heldS P)).1.num = (firstS P).2.2.2 := by simpa using q2
    have q3 : (readC (heldS P)).1.ses = (firstS P).2.1 := by simpa using q3
    have q4 : (readC (heldS P)).1.z = (D.zs.length : Int) := by simpa using q4
    have q5 : (readC (heldS P)).1.p = (D.P : Int) := by simpa using q5
    by_cases e : whereS D (firstS P).2.2.2 = (zn : Int)
    · have e2 : (whereS D (firstS P).2.2.2 != (zn : Int)) = false := by simp [e]
      refine e2.trans (decide_eq_false ?_).symm
      rintro (x | x | x | x | x | x | x)
      · exact x he
      · exact x hpre
      · exact x q2
      · exact x q3
      · exact x q4
      · exact x q5
      · rw [q2] at x; exact x e
    · have e2 : (whereS D (firstS P).2.2.2 != (zn : Int)) = true := by simp [e]
      exact e2.trans (decide_eq_true (.inr (.inr (.inr (.inr (.inr (.inr (by rw [q2]; exact e)))))))).symm
  rintro s h' ⟨rfl, hh⟩ _; subst h'
  refine br_of (fun hb => err h6 10 (by rw [hrs, if_pos (of_decide_eq_true hb)]) n26) fun hb => ?_
  have hb := of_decide_eq_false hb
  refine ldChk b6 (put_out (K := RReadSP D (zn : Int) h) (c := (readC (heldS P)).1) (da := da) (dc := dc) (b12.new n26) rfl fun h7 o7 => ?_)
  unfold RReadSP
  rw [hrs, if_neg hb]
  have hs4 := (n02.trans n24).size
  exact ⟨da, dc, rfl, OwnH.low (base := h4.size) ((o5.grow n6).keep fun g _ hg _ _ => o7.same g (by have := n02.size; have := n24.size; omega)) hs4, o7.upd.new (n02.trans n26) (Nat.le_refl _)⟩
end Go.Proofs.YthimfpkkdhpceaaGreatDoor.Slt
/-
  The formula of the comparison of two rows of bytes. Each formula checked by the kernel. Printed by a program of this repo.
-/
namespace Go.Proofs.YthimfpkkdhpceaaGreatDoor.W
open Go.Pl

-- function 52
set_option maxRecDepth 100000 in
def F52 (a_0 : Option Addr) (a_0l _a_0c : Nat) (b_1 : Option Addr) (b_1l _b_1c : Nat) (K : Value → Heap → Prop) (h0 : Heap) : Prop := (
  br ((((a_0l : Nat) : Int)) != (((b_1l : Nat) : Int)))
  (K (.bool false) h0)
  (loopT [.sc (.int .i64)] (fun (s2 : Int) _ (K1 : Int → Heap → Prop) h3 =>
  br (decide (s2 < (((a_0l : Nat) : Int))))
  (ptrW a_0 (fun a4 =>
  idxW s2 a_0l true (ldW (.int .u8) (Addr.add a4 (Int.toNat s2 * 1)) (fun (x5 : Int) =>
  ptrW b_1 (fun a6 =>
  idxW s2 b_1l true (ldW (.int .u8) (Addr.add a6 (Int.toNat s2 * 1)) (fun (x7 : Int) =>
  br (x5 != x7)
  (K (.bool false) h3)
  (K1 (IntKind.wrap .i64 (s2 + (1 : Int))) h3)) h3))) h3)))
  (K (.bool true) h3)) (0 : Int) h0))
set_option maxRecDepth 100000 in
theorem F52_eq (a_0 : Option Addr) (a_0l a_0c : Nat) (b_1 : Option Addr) (b_1l b_1c : Nat) (K : Value → Heap → Prop) (h0 : Heap) : funWE Tryz.prog 52 (.seq (.leaf) (.seq (.seq (.leaf) (.cond (.seq (.leaf) (.leaf)) (.leaf))) (.seq (.seq (.leaf) (.block (.loop [(5, .sc (.int .i64))] (.seq (.seq (.leaf) (.cond (.leaf) (.leaf))) (.seq (.block (.seq (.draw (odp [0, 1, 2, 3, 4, 5, 6, 7, 8] .nil) []) (.cond (.seq (.leaf) (.leaf)) (.leaf)))) (.leaf)))))) (.seq (.leaf) (.leaf))))) [.slice a_0 a_0l a_0c, .slice b_1 b_1l b_1c] K h0 = F52 a_0 a_0l a_0c b_1 b_1l b_1c K h0 := by kernel_rfl

end Go.Proofs.YthimfpkkdhpceaaGreatDoor.W
/-
  The contract of the comparison of two rows of bytes.
-/
namespace Go.Proofs.YthimfpkkdhpceaaGreatDoor.Same3
open Go.Pl Go.Proofs.YthimfpkkdhpceaaGreatDoor.W
theorem same_ok (a b : Option Addr) (n m ca cb : Nat) (h : Heap) (xs ys : List Int) (hx : n = xs.length) (hy : m = ys.length) (hn : n ≤ 9223372036854775806) (ra : Ar .u8 h a xs) (rb : Ar .u8 h b ys) :
    CallsH Tryz.prog 52 [.slice a n ca, .slice b m cb] h fun v h' => v = .bool (decide (xs = ys)) ∧ h' = h := by
  refine fun_ok (by kernel_rfl) Tryz.func52 (by kernel_rfl) (F52_eq _ _ _ _ _ _ _ h) ?_
  unfold F52
  subst hx; subst hy
  refine br_of (fun hne => ?_) (fun heq => ?_)
  · have : xs ≠ ys := fun e => by subst e; simp at hne
    exact ⟨by simp [this], rfl⟩
  have hl : xs.length = ys.length := by simp at heq; omega
  refine ⟨fun (s : Int) h' => h' = h ∧ ∃ i : Nat, s = i ∧ i ≤ xs.length ∧ xs.take i = ys.take i, fun (s : Int) _ => (xs.length - s).toNat, ⟨rfl, 0, rfl, by omega, rfl⟩, ?_⟩
  rintro s j h' ⟨hh, i, rfl, hi, hpre⟩
  subst h'
  refine br_of (fun hlt => ?_) (fun hlt => ?_)
  · have hlt : i < xs.length := by simp at hlt; omega
    refine ix_ld ra hlt (by omega) (ix_ld rb (by omega) (by omega) (br_of (fun hd => ?_) (fun hd => ?_)))
    · have hd : xs[i] ≠ ys[i] := by simpa using hd
      have : xs ≠ ys := fun e => by subst e; exact hd rfl
      exact ⟨by simp [this], by trivial⟩
    · have hd : xs[i] = ys[i] := by simpa using hd
      rw [wr64 (by omega) (by omega)]
      refine ⟨⟨by trivial, i + 1, by omega, by omega, ?_⟩, by dsimp only; omega⟩
      rw [List.take_add_one, List.take_add_one, hpre, List.getElem?_eq_getElem hlt, List.getElem?_eq_getElem (show i < ys.length by omega), hd]
  · have hi : i = xs.length := by simp at hlt; omega
    subst hi
    rw [List.take_length] at hpre
    rw [hl, List.take_length] at hpre
    exact ⟨by simp [hpre], rfl⟩
/-- The same where it is told as a call that leaves memory as it is. -/
theorem same_q (a b : Option Addr) (n m ca cb : Nat) (h : Heap) (xs ys : List Int) (hx : n = xs.length) (hy : m = ys.length) (hn : n ≤ 9223372036854775806) (ra : Ar .u8 h a xs) (rb : Ar .u8 h b ys) {F : Bool → Prop} (hF : F (decide (xs = ys))) :
    callQ Tryz.prog 52 [.slice a n ca, .slice b m cb] [.sc .bool] F h :=
  ⟨decide (xs = ys), fun h' e => same_ok a b n m ca cb h' xs ys hx hy hn (ra.new e.new) (rb.new e.new), hF⟩
end Go.Proofs.YthimfpkkdhpceaaGreatDoor.Same3
/-
  The formulas of the laws of slot with the reference. Each formula checked by the kernel. Printed by a program of this repo.
-/
namespace Go.Proofs.YthimfpkkdhpceaaGreatDoor.W
open Go.Pl

-- function 15
set_option maxRecDepth 100000 in
def F15 (c_0_0 : Int) (c_0_1 : Int) (c_0_2 : Int) (c_0_3 : Int) (c_0_4 : Int) (c_0_5 : Int) (c_0_6 : Option Addr) (c_0_6l c_0_6c : Nat) (K : Value → Heap → Prop) (h0 : Heap) : Prop := (
  newW (.cells #[.int .u32 c_0_0, .int .u32 c_0_1, .int .u32 c_0_2, .int .i64 c_0_3, .int .i64 c_0_4, .int .i64 c_0_5, .slice c_0_6 c_0_6l c_0_6c] 40) (fun a1 h2 =>
  newW (.cells (zeroC Tryz.prog 46) 46) (fun a3 h4 =>
  ldW (.int .u32) (Addr.add a1 0) (fun (x5 : Int) =>
  ldW (.int .u32) (Addr.add a1 1) (fun (x6 : Int) =>
  ldW (.int .u32) (Addr.add a1 2) (fun (x7 : Int) =>
  ldAggW [.int .i64, .int .i64, .int .i64] (Addr.add a1 3) (fun (x8 : Int × Int × Int) =>
  ldW .slice (Addr.add a1 6) (fun (x9 : Option Addr × Nat × Nat) =>
  stLW a3 [.int .u32 x5, .int .u32 x6, .int .u32 x7, .int .i64 x8.1, .int .i64 x8.2.1, .int .i64 x8.2.2, .slice x9.1 x9.2.1 x9.2.2] (fun h10 =>
  ldAggW [.int .u32, .int .u32, .int .u32, .int .i64, .int .i64, .int .i64, .slice] a3 (fun (x11 : Int × Int × Int × Int × Int × Int × (Option Addr × Nat × Nat)) =>
  K (.agg #[.int .u32 x11.1, .int .u32 x11.2.1, .int .u32 x11.2.2.1, .int .i64 x11.2.2.2.1, .int .i64 x11.2.2.2.2.1, .int .i64 x11.2.2.2.2.2.1, .slice x11.2.2.2.2.2.2.1 x11.2.2.2.2.2.2.2.1 x11.2.2.2.2.2.2.2.2]) h10) h10) h4) h4) h4) h4) h4) h4) h2) h0)
set_option maxRecDepth 100000 in
theorem F15_eq (c_0_0 : Int) (c_0_1 : Int) (c_0_2 : Int) (c_0_3 : Int) (c_0_4 : Int) (c_0_5 : Int) (c_0_6 : Option Addr) (c_0_6l c_0_6c : Nat) (K : Value → Heap → Prop) (h0 : Heap) : funWE Tryz.prog 15 (.seq (.leaf) (.seq (.leaf) (.leaf))) [.agg #[.int .u32 c_0_0, .int .u32 c_0_1, .int .u32 c_0_2, .int .i64 c_0_3, .int .i64 c_0_4, .int .i64 c_0_5, .slice c_0_6 c_0_6l c_0_6c]] K h0 = F15 c_0_0 c_0_1 c_0_2 c_0_3 c_0_4 c_0_5 c_0_6 c_0_6l c_0_6c K h0 := by kernel_rfl

-- function 16
set_option maxRecDepth 100000 in
def F16 (d_0 : Addr) (r_1 : Addr) (K : Value → Heap → Prop) (h0 : Heap) : Prop := (
  cutT [] (fun (K1 : Unit → Heap → Prop) h8 =>
  ldW (.int .i64) (Addr.add r_1 3) (fun (x2 : Int) =>
  callT Tryz.prog 30 [.pointer (some d_0)] [.sc (.int .i64)] (fun (r3 : Int) h4 =>
  (cellH h4 (Addr.add r_1 3) = some (.int .i64 x2) ∧ br (r3 != x2)
  (K (.bool false) h4)
  (ldW .bool (Addr.add r_1 4) (fun (x5 : Bool) =>
  callT Tryz.prog 45 [.pointer (some d_0)] [.sc .bool] (fun (r6 : Bool) h7 =>
  (cellH h7 (Addr.add r_1 4) = some (.bool x5) ∧ (cellH h7 (Addr.add r_1 3) = some (.int .i64 x2) ∧ br (!(r6 == x5))
  (K (.bool false) h7)
  (K1 () h7)))) h4) h4))) h8) h8) (fun (_s9 : Unit) _ h10 =>
  ldW .slice (Addr.add r_1 0) (fun (x11 : Option Addr × Nat × Nat) =>
  loopT [.sc (.int .i64)] (fun (s13 : Int) _ (K12 : Int → Heap → Prop) h14 =>
  ldW .slice (Addr.add r_1 0) (fun (x15 : Option Addr × Nat × Nat) =>
  br (decide (s13 < (((x15.2.1 : Nat) : Int))))
  (cutT [] (fun (K16 : Unit → Heap → Prop) h25 =>
  callT Tryz.prog 46 [.pointer (some d_0), .int .i64 s13] [.sc (.int .i64)] (fun (r17 : Int) h18 =>
  callT Tryz.prog 47 [.pointer (some r_1), .int .i64 s13] [.sc (.int .i64)] (fun (r19 : Int) h20 =>
  br (r17 != r19)
  (K (.bool false) h20)
  (callT Tryz.prog 48 [.pointer (some d_0), .int .i64 s13] [.sc (.int .i64)] (fun (r21 : Int) h22 =>
  callT Tryz.prog 49 [.pointer (some r_1), .int .i64 s13] [.sc (.int .i64)] (fun (r23 : Int) h24 =>
  br (r21 != r23)
  (K (.bool false) h24)
  (K16 () h24)) h22) h20)) h18) h25) (fun (_s26 : Unit) _ h27 =>
  callT Tryz.prog 47 [.pointer (some r_1), .int .i64 s13] [.sc (.int .i64)] (fun (r28 : Int) h29 =>
  loopT [.sc (.int .i64)] (fun (s31 : Int) _ (K30 : Int → Heap → Prop) h32 =>
  br (decide (s31 < r28))
  (callT Tryz.prog 50 [.pointer (some d_0), .int .i64 s13, .int .i64 s31] [.sc .slice, .sc .any] (fun (r33 : (Option Addr × Nat × Nat) × Value) h34 =>
  callT Tryz.prog 51 [.pointer (some r_1), .int .i64 s13, .int .i64 s31] [.sc .slice, .sc (.int .i64)] (fun (r35 : (Option Addr × Nat × Nat) × Int) h36 =>
  callT Tryz.prog 52 [.slice r33.1.1 r33.1.2.1 r33.1.2.2, .slice r35.1.1 r35.1.2.1 r35.1.2.2] [.sc .bool] (fun (r37 : Bool) h38 =>
  br (!r37)
  (K (.bool false) h38)
  (callT Tryz.prog 12 [r33.2] [.sc (.int .i64)] (fun (r39 : Int) h40 =>
  br (r39 != r35.2)
  (K (.bool false) h40)
  (K30 (IntKind.wrap .i64 (s31 + (1 : Int))) h40)) h38)) h36) h34) h32)
  (K12 (IntKind.wrap .i64 (s13 + (1 : Int))) h32)) (0 : Int) h29) h27) h14)
  (K (.bool true) h14)) h14) (mm2 true (IntKind.wrap .i64 ((((x11.2.1 : Nat) : Int)) - (2 : Int))) (0 : Int)) h10) h10) h0)
set_option maxRecDepth 100000 in
theorem F16_eq (d_0 : Addr) (r_1 : Addr) (K : Value → Heap → Prop) (h0 : Heap) : funWE Tryz.prog 16 (.seq (.leaf) (.cut [] (.seq (.draw (odp [0, 2, 3, 4, 5, 1, 6, 7, 8, 10, 11, 12, 13, 9, 14, 15] .nil) [200005, 200013]) (.cond (.seq (.leaf) (.leaf)) (.leaf))) (.seq (.seq (.leaf) (.block (.loop [(5, .sc (.int .i64))] (.seq (.seq (.leaf) (.cond (.leaf) (.leaf))) (.seq (.block (.cut [] (.seq (.leaf) (.cond (.seq (.leaf) (.leaf)) (.leaf))) (.seq (.leaf) (.block (.loop [(62, .sc (.int .i64))] (.seq (.leaf) (.seq (.cond (.leaf) (.leaf)) (.seq (.block (.seq (.leaf) (.seq (.leaf) (.seq (.leaf) (.seq (.leaf) (.cond (.seq (.leaf) (.leaf)) (.leaf))))))) (.leaf))))))))) (.leaf)))))) (.seq (.leaf) (.leaf))))) [.pointer (some d_0), .pointer (some r_1)] K h0 = F16 d_0 r_1 K h0 := by kernel_rfl

-- function 3
set_option maxRecDepth 100000 in
def F3 (zones_0 : Int) (pages_1 : Int) (fuse_2 : Int) (l_3 : Option Addr) (l_3l l_3c : Nat) (K : Value → Heap → Prop) (h0 : Heap) : Prop := (
  callT Tryz.prog 6 [] [.sc .bool] (fun (r1 : Bool) h2 =>
  br (!r1)
  (K (.bool false) h2)
  (callT Tryz.prog 7 [.slice l_3 l_3l l_3c] [.sc .bool] (fun (r3 : Bool) h4 =>
  br r3
  (K (.bool true) h4)
  (callT Tryz.prog 8 [.int .i64 zones_0, .int .i64 pages_1] [.sc .ptr, .sc .any] (fun (r5 : (Option Addr) × Value) h6 =>
  callT Tryz.prog 9 [.int .i64 zones_0, .int .i64 pages_1] [.sc .ptr, .sc (.int .i64)] (fun (r7 : (Option Addr) × Int) h8 =>
  cutT [] (fun (K9 : Unit → Heap → Prop) h14 =>
  cutT [.sc .bool] (fun (K10 : Bool → Heap → Prop) h11 =>
  br (Option.isNone r5.1)
  (K10 true h11)
  (K10 (Option.isNone r7.1) h11)) (fun (s12 : Bool) _ h13 =>
  br s12
  (K (.bool ((Option.isNone r5.1) == (Option.isNone r7.1))) h13)
  (K9 () h13)) h14) (fun (_s15 : Unit) _ h16 =>
  callT Tryz.prog 10 [.pointer r5.1, .int .i64 fuse_2] [] (fun (_r17 : Unit) h18 =>
  callT Tryz.prog 11 [.pointer r7.1, .int .i64 fuse_2] [] (fun (_r19 : Unit) h20 =>
  loopT [.sc (.int .i64)] (fun (s22 : Int) _ (K21 : Int → Heap → Prop) h23 =>
  br (decide (s22 < (((l_3l : Nat) : Int))))
  (ptrW l_3 (fun a24 =>
  idxW s22 l_3l true (ldAggW [.int .u32, .int .u32, .int .u32, .int .i64, .int .i64, .int .i64, .slice] (Addr.add a24 (Int.toNat s22 * 7)) (fun (x25 : Int × Int × Int × Int × Int × Int × (Option Addr × Nat × Nat)) =>
  newW (.cells (zeroC Tryz.prog 40) 40) (fun a26 h27 =>
  stLW a26 [.int .u32 x25.1, .int .u32 x25.2.1, .int .u32 x25.2.2.1, .int .i64 x25.2.2.2.1, .int .i64 x25.2.2.2.2.1, .int .i64 x25.2.2.2.2.2.1, .slice x25.2.2.2.2.2.2.1 x25.2.2.2.2.2.2.2.1 x25.2.2.2.2.2.2.2.2] (fun h28 =>
  cutT [] (fun (K29 : Unit → Heap → Prop) h42 =>
  ldAggW [.int .u32, .int .u32, .int .u32, .int .i64, .int .i64, .int .i64, .slice] a26 (fun (x30 : Int × Int × Int × Int × Int × Int × (Option Addr × Nat × Nat)) =>
  ldAggW [.int .u32, .int .u32, .int .u32, .int .i64, .int .i64, .int .i64, .slice] a26 (fun (x31 : Int × Int × Int × Int × Int × Int × (Option Addr × Nat × Nat)) =>
  callT Tryz.prog 13 [.pointer r5.1, .agg #[.int .u32 x30.1, .int .u32 x30.2.1, .int .u32 x30.2.2.1, .int .i64 x30.2.2.2.1, .int .i64 x30.2.2.2.2.1, .int .i64 x30.2.2.2.2.2.1, .slice x30.2.2.2.2.2.2.1 x30.2.2.2.2.2.2.2.1 x30.2.2.2.2.2.2.2.2]] [.sc .any] (fun (r32 : Value) h33 =>
  (cellH h33 (Addr.add a26 0) = some (.int .u32 x31.1) ∧ (cellH h33 (Addr.add a26 1) = some (.int .u32 x31.2.1) ∧ (cellH h33 (Addr.add a26 2) = some (.int .u32 x31.2.2.1) ∧ (cellH h33 (Addr.add a26 3) = some (.int .i64 x31.2.2.2.1) ∧ (cellH h33 (Addr.add a26 4) = some (.int .i64 x31.2.2.2.2.1) ∧ (cellH h33 (Addr.add a26 5) = some (.int .i64 x31.2.2.2.2.2.1) ∧ (cellH h33 (Addr.add a26 6) = some (.slice x31.2.2.2.2.2.2.1 x31.2.2.2.2.2.2.2.1 x31.2.2.2.2.2.2.2.2) ∧ callT Tryz.prog 12 [r32] [.sc (.int .i64)] (fun (r34 : Int) h35 =>
  (cellH h35 (Addr.add a26 0) = some (.int .u32 x31.1) ∧ (cellH h35 (Addr.add a26 1) = some (.int .u32 x31.2.1) ∧ (cellH h35 (Addr.add a26 2) = some (.int .u32 x31.2.2.1) ∧ (cellH h35 (Addr.add a26 3) = some (.int .i64 x31.2.2.2.1) ∧ (cellH h35 (Addr.add a26 4) = some (.int .i64 x31.2.2.2.2.1) ∧ (cellH h35 (Addr.add a26 5) = some (.int .i64 x31.2.2.2.2.2.1) ∧ (cellH h35 (Addr.add a26 6) = some (.slice x31.2.2.2.2.2.2.1 x31.2.2.2.2.2.2.2.1 x31.2.2.2.2.2.2.2.2) ∧ callT Tryz.prog 15 [.agg #[.int .u32 x31.1, .int .u32 x31.2.1, .int .u32 x31.2.2.1, .int .i64 x31.2.2.2.1, .int .i64 x31.2.2.2.2.1, .int .i64 x31.2.2.2.2.2.1, .slice x31.2.2.2.2.2.2.1 x31.2.2.2.2.2.2.2.1 x31.2.2.2.2.2.2.2.2]] [.agg [.int .u32, .int .u32, .int .u32, .int .i64, .int .i64, .int .i64, .slice]] (fun (r36 : (Int × Int × Int × Int × Int × Int × (Option Addr × Nat × Nat))) h37 =>
  callT Tryz.prog 14 [.pointer r7.1, .agg #[.int .u32 r36.1, .int .u32 r36.2.1, .int .u32 r36.2.2.1, .int .i64 r36.2.2.2.1, .int .i64 r36.2.2.2.2.1, .int .i64 r36.2.2.2.2.2.1, .slice r36.2.2.2.2.2.2.1 r36.2.2.2.2.2.2.2.1 r36.2.2.2.2.2.2.2.2]] [.sc (.int .i64)] (fun (r38 : Int) h39 =>
  br (r34 != r38)
  (K (.bool false) h39)
  (callT Tryz.prog 16 [.pointer r5.1, .pointer r7.1] [.sc .bool] (fun (r40 : Bool) h41 =>
  br (!r40)
  (K (.bool false) h41)
  (K29 () h41)) h39)) h37) h35)))))))) h33)))))))) h42) h42) h42) (fun (_s43 : Unit) _ h44 =>
  loopT [.sc (.int .i64)] (fun (s46 : Int) _ (K45 : Int → Heap → Prop) h47 =>
  br (decide (s46 ≤ zones_0))
  (callT Tryz.prog 17 [.pointer r5.1, .int .i64 s46] [.agg [.int .u32, .int .u32, .int .u32, .int .i64, .int .i64, .int .i64, .slice], .sc .any] (fun (r48 : (Int × Int × Int × Int × Int × Int × (Option Addr × Nat × Nat)) × Value) h49 =>
  newW (.cells (zeroC Tryz.prog 40) 40) (fun a50 h51 =>
  stLW a50 [.int .u32 r48.1.1, .int .u32 r48.1.2.1, .int .u32 r48.1.2.2.1, .int .i64 r48.1.2.2.2.1, .int .i64 r48.1.2.2.2.2.1, .int .i64 r48.1.2.2.2.2.2.1, .slice r48.1.2.2.2.2.2.2.1 r48.1.2.2.2.2.2.2.2.1 r48.1.2.2.2.2.2.2.2.2] (fun h52 =>
  callT Tryz.prog 18 [.pointer r7.1, .int .i64 s46] [.agg [.int .u32, .int .u32, .int .u32, .int .i64, .int .i64, .int .i64, .slice], .sc (.int .i64)] (fun (r53 : (Int × Int × Int × Int × Int × Int × (Option Addr × Nat × Nat)) × Int) h54 =>
  newW (.cells (zeroC Tryz.prog 46) 46) (fun a55 h56 =>
  stLW a55 [.int .u32 r53.1.1, .int .u32 r53.1.2.1, .int .u32 r53.1.2.2.1, .int .i64 r53.1.2.2.2.1, .int .i64 r53.1.2.2.2.2.1, .int .i64 r53.1.2.2.2.2.2.1, .slice r53.1.2.2.2.2.2.2.1 r53.1.2.2.2.2.2.2.2.1 r53.1.2.2.2.2.2.2.2.2] (fun h57 =>
  callT Tryz.prog 12 [r48.2] [.sc (.int .i64)] (fun (r58 : Int) h59 =>
  br (r58 != r53.2)
  (K (.bool false) h59)
  (ldAggW [.int .u32, .int .u32, .int .u32, .int .i64, .int .i64, .int .i64, .slice] a50 (fun (x60 : Int × Int × Int × Int × Int × Int × (Option Addr × Nat × Nat)) =>
  ldAggW [.int .u32, .int .u32, .int .u32, .int .i64, .int .i64, .int .i64, .slice] a55 (fun (x61 : Int × Int × Int × Int × Int × Int × (Option Addr × Nat × Nat)) =>
  callT Tryz.prog 15 [.agg #[.int .u32 x60.1, .int .u32 x60.2.1, .int .u32 x60.2.2.1, .int .i64 x60.2.2.2.1, .int .i64 x60.2.2.2.2.1, .int .i64 x60.2.2.2.2.2.1, .slice x60.2.2.2.2.2.2.1 x60.2.2.2.2.2.2.2.1 x60.2.2.2.2.2.2.2.2]] [.agg [.int .u32, .int .u32, .int .u32, .int .i64, .int .i64, .int .i64, .slice]] (fun (r62 : (Int × Int × Int × Int × Int × Int × (Option Addr × Nat × Nat))) h63 =>
  (cellH h63 (Addr.add a55 0) = some (.int .u32 x61.1) ∧ (cellH h63 (Addr.add a55 1) = some (.int .u32 x61.2.1) ∧ (cellH h63 (Addr.add a55 2) = some (.int .u32 x61.2.2.1) ∧ (cellH h63 (Addr.add a55 3) = some (.int .i64 x61.2.2.2.1) ∧ (cellH h63 (Addr.add a55 4) = some (.int .i64 x61.2.2.2.2.1) ∧ (cellH h63 (Addr.add a55 5) = some (.int .i64 x61.2.2.2.2.2.1) ∧ (cellH h63 (Addr.add a55 6) = some (.slice x61.2.2.2.2.2.2.1 x61.2.2.2.2.2.2.2.1 x61.2.2.2.2.2.2.2.2) ∧ callT Tryz.prog 19 [.agg #[.int .u32 r62.1, .int .u32 r62.2.1, .int .u32 r62.2.2.1, .int .i64 r62.2.2.2.1, .int .i64 r62.2.2.2.2.1, .int .i64 r62.2.2.2.2.2.1, .slice r62.2.2.2.2.2.2.1 r62.2.2.2.2.2.2.2.1 r62.2.2.2.2.2.2.2.2], .agg #[.int .u32 x61.1, .int .u32 x61.2.1, .int .u32 x61.2.2.1, .int .i64 x61.2.2.2.1, .int .i64 x61.2.2.2.2.1, .int .i64 x61.2.2.2.2.2.1, .slice x61.2.2.2.2.2.2.1 x61.2.2.2.2.2.2.2.1 x61.2.2.2.2.2.2.2.2]] [.sc .bool] (fun (r64 : Bool) h65 =>
  br (!r64)
  (K (.bool false) h65)
  (K45 (IntKind.wrap .i64 (s46 + (1 : Int))) h65)) h63)))))))) h59) h59) h59)) h57) h56) h54) h52) h51) h49) h47)
  (callT Tryz.prog 20 [.pointer r5.1] [.agg [.int .u32, .int .u32, .int .u32, .int .i64, .int .i64, .int .i64, .slice], .sc .any] (fun (r66 : (Int × Int × Int × Int × Int × Int × (Option Addr × Nat × Nat)) × Value) h67 =>
  newW (.cells (zeroC Tryz.prog 40) 40) (fun a68 h69 =>
  stLW a68 [.int .u32 r66.1.1, .int .u32 r66.1.2.1, .int .u32 r66.1.2.2.1, .int .i64 r66.1.2.2.2.1, .int .i64 r66.1.2.2.2.2.1, .int .i64 r66.1.2.2.2.2.2.1, .slice r66.1.2.2.2.2.2.2.1 r66.1.2.2.2.2.2.2.2.1 r66.1.2.2.2.2.2.2.2.2] (fun h70 =>
  callT Tryz.prog 21 [.pointer r7.1] [.agg [.int .u32, .int .u32, .int .u32, .int .i64, .int .i64, .int .i64, .slice], .sc (.int .i64)] (fun (r71 : (Int × Int × Int × Int × Int × Int × (Option Addr × Nat × Nat)) × Int) h72 =>
  newW (.cells (zeroC Tryz.prog 46) 46) (fun a73 h74 =>
  stLW a73 [.int .u32 r71.1.1, .int .u32 r71.1.2.1, .int .u32 r71.1.2.2.1, .int .i64 r71.1.2.2.2.1, .int .i64 r71.1.2.2.2.2.1, .int .i64 r71.1.2.2.2.2.2.1, .slice r71.1.2.2.2.2.2.2.1 r71.1.2.2.2.2.2.2.2.1 r71.1.2.2.2.2.2.2.2.2] (fun h75 =>
  callT Tryz.prog 12 [r66.2] [.sc (.int .i64)] (fun (r76 : Int) h77 =>
  br (r76 != r71.2)
  (K (.bool false) h77)
  (ldAggW [.int .u32, .int .u32, .int .u32, .int .i64, .int .i64, .int .i64, .slice] a68 (fun (x78 : Int × Int × Int × Int × Int × Int × (Option Addr × Nat × Nat)) =>
  ldAggW [.int .u32, .int .u32, .int .u32, .int .i64, .int .i64, .int .i64, .slice] a73 (fun (x79 : Int × Int × Int × Int × Int × Int × (Option Addr × Nat × Nat)) =>
  callT Tryz.prog 15 [.agg #[.int .u32 x78.1, .int .u32 x78.2.1, .int .u32 x78.2.2.1, .int .i64 x78.2.2.2.1, .int .i64 x78.2.2.2.2.1, .int .i64 x78.2.2.2.2.2.1, .slice x78.2.2.2.2.2.2.1 x78.2.2.2.2.2.2.2.1 x78.2.2.2.2.2.2.2.2]] [.agg [.int .u32, .int .u32, .int .u32, .int .i64, .int .i64, .int .i64, .slice]] (fun (r80 : (Int × Int × Int × Int × Int × Int × (Option Addr × Nat × Nat))) h81 =>
  (cellH h81 (Addr.add a73 0) = some (.int .u32 x79.1) ∧ (cellH h81 (Addr.add a73 1) = some (.int .u32 x79.2.1) ∧ (cellH h81 (Addr.add a73 2) = some (.int .u32 x79.2.2.1) ∧ (cellH h81 (Addr.add a73 3) = some (.int .i64 x79.2.2.2.1) ∧ (cellH h81 (Addr.add a73 4) = some (.int .i64 x79.2.2.2.2.1) ∧ (cellH h81 (Addr.add a73 5) = some (.int .i64 x79.2.2.2.2.2.1) ∧ (cellH h81 (Addr.add a73 6) = some (.slice x79.2.2.2.2.2.2.1 x79.2.2.2.2.2.2.2.1 x79.2.2.2.2.2.2.2.2) ∧ callT Tryz.prog 19 [.agg #[.int .u32 r80.1, .int .u32 r80.2.1, .int .u32 r80.2.2.1, .int .i64 r80.2.2.2.1, .int .i64 r80.2.2.2.2.1, .int .i64 r80.2.2.2.2.2.1, .slice r80.2.2.2.2.2.2.1 r80.2.2.2.2.2.2.2.1 r80.2.2.2.2.2.2.2.2], .agg #[.int .u32 x79.1, .int .u32 x79.2.1, .int .u32 x79.2.2.1, .int .i64 x79.2.2.2.1, .int .i64 x79.2.2.2.2.1, .int .i64 x79.2.2.2.2.2.1, .slice x79.2.2.2.2.2.2.1 x79.2.2.2.2.2.2.2.1 x79.2.2.2.2.2.2.2.2]] [.sc .bool] (fun (r82 : Bool) h83 =>
  br (!r82)
  (K (.bool false) h83)
  (br (decide (zones_0 ≥ (2 : Int)))
  (ldW (.int .u32) (Addr.add a26 0) (fun (x84 : Int) =>
  ldW (.int .u32) (Addr.add a26 0) (fun (x85 : Int) =>
  callT Tryz.prog 22 [.pointer r5.1, .int .u32 x84] [.sc (.int .i64)] (fun (r86 : Int) h87 =>
  (cellH h87 (Addr.add a26 0) = some (.int .u32 x85) ∧ callT Tryz.prog 23 [.pointer r7.1, .int .u32 x85] [.sc (.int .i64)] (fun (r88 : Int) h89 =>
  br (r86 != r88)
  (K (.bool false) h89)
  (K21 (IntKind.wrap .i64 (s22 + (1 : Int))) h89)) h87)) h83) h83) h83)
  (K21 (IntKind.wrap .i64 (s22 + (1 : Int))) h83))) h81)))))))) h77) h77) h77)) h75) h74) h72) h70) h69) h67) h47)) (IntKind.wrap .i64 (zones_0 - (3 : Int))) h44) h28) h27) h23) h23)))
  (K (.bool true) h23)) (0 : Int) h20) h18) h16) h8) h6) h4)) h2)) h0)
set_option maxRecDepth 100000 in
theorem F3_eq (zones_0 : Int) (pages_1 : Int) (fuse_2 : Int) (l_3 : Option Addr) (l_3l l_3c : Nat) (K : Value → Heap → Prop) (h0 : Heap) : funWE Tryz.prog 3 (.seq (.leaf) (.seq (.seq (.leaf) (.cond (.seq (.leaf) (.leaf)) (.leaf))) (.seq (.seq (.leaf) (.cond (.seq (.leaf) (.leaf)) (.leaf))) (.seq (.leaf) (.seq (.leaf) (.cut [] (.cut [(45, .sc .bool)] (.leaf) (.cond (.seq (.leaf) (.leaf)) (.leaf))) (.seq (.leaf) (.seq (.leaf) (.seq (.seq (.leaf) (.block (.loop [(59, .sc (.int .i64))] (.seq (.leaf) (.seq (.cond (.leaf) (.leaf)) (.seq (.block (.seq (.leaf) (.cut [] (.seq (.draw (odp [0, 1, 4, 5, 2, 3, 6, 7, 8, 9, 10, 11, 12, 13, 14] .nil) [200005]) (.cond (.seq (.leaf) (.leaf)) (.leaf))) (.seq (.seq (.leaf) (.block (.loop [(15, .sc (.int .i64))] (.seq (.seq (.leaf) (.cond (.leaf) (.leaf))) (.seq (.block (.seq (.leaf) (.seq (.leaf) (.seq (.draw (odp [0, 2, 1, 3, 4, 5, 7, 6, 8, 9, 10] .nil) [200007]) (.cond (.seq (.leaf) (.leaf)) (.leaf)))))) (.leaf)))))) (.seq (.leaf) (.seq (.leaf) (.seq (.draw (odp [0, 2, 1, 3, 4, 5, 7, 6, 8, 9, 10, 11, 12, 13, 14, 15, 16, 17, 19, 20, 21, 18, 22, 23, 24, 25] .nil) [200007, 200021]) (.cond (.seq (.leaf) (.leaf)) (.leaf))))))))) (.leaf))))))) (.seq (.leaf) (.leaf))))))))))) [.int .i64 zones_0, .int .i64 pages_1, .int .i64 fuse_2, .slice l_3 l_3l l_3c] K h0 = F3 zones_0 pages_1 fuse_2 l_3 l_3l l_3c K h0 := by kernel_rfl

end Go.Proofs.YthimfpkkdhpceaaGreatDoor.W
/-
  The reference of slot: Newest. The law's own functions beside the reference.
-/
namespace Go.Proofs.YthimfpkkdhpceaaGreatDoor.Slt
open Go.Pl Go.Proofs.YthimfpkkdhpceaaGreatDoor.W Go.Proofs.YthimfpkkdhpceaaGreatDoor.Byts Go.Proofs.YthimfpkkdhpceaaGreatDoor.Four Go.Proofs.YthimfpkkdhpceaaGreatDoor.Adl Go.Proofs.YthimfpkkdhpceaaGreatDoor.As Go.Proofs.YthimfpkkdhpceaaGreatDoor.Err Go.Proofs.YthimfpkkdhpceaaGreatDoor.Head Go.Proofs.YthimfpkkdhpceaaGreatDoor.HdP Go.Proofs.YthimfpkkdhpceaaGreatDoor.Geo Go.Proofs.YthimfpkkdhpceaaGreatDoor.Zns Go.Proofs.YthimfpkkdhpceaaGreatDoor.ZnsP Go.Proofs.YthimfpkkdhpceaaGreatDoor.Ck Go.Proofs.YthimfpkkdhpceaaGreatDoor.Rng
theorem read_code {D : Dev} (hd : D.down = false) {z : Int} (h2 : ¬ ((D.zs.length : Int) < 2 ∨ z < (D.zs.length : Int) - 2 ∨ z ≥ (D.zs.length : Int))) : (readS D z).2 = 0 ∨ readS D z = (ck0, 10) := by
  unfold readS
  rw [if_neg (by rw [hd]; simp), if_neg h2]
  split
  · exact .inr rfl
  · exact .inl rfl
def RNewestP (D : Dev) (h : Heap) (v : Value) (h' : Heap) : Prop := ∃ da dc, v = .tuple #[chkV (newestS D).1 da dc, .int .i64 (newestS D).2] ∧ OwnH h' h.size 35 1 da (newestS D).1.dir.length dc ((newestS D).1.dir.map (Value.int .u32)) ∧ New h h'
theorem rnewest_ok {k b : Nat} {t : Tags} {D : Dev} (o : DevOk D) (h : Heap) (r : RRep k t h b D) :
    CallsH Tryz.prog 21 [ptr b] h (RNewestP D h) := by
  refine fun_ok Geo.hm' Tryz.func21 (by kernel_rfl) (F21_eq _ _ h) ?_
  unfold F21
  have hzs := o.zones
  refine new_of fun h1 b1 n1 s1 => ?_
  rw [zeroR6] at b1
  obtain ⟨za, zc, arr, r1⟩ := r.new n1
  have r1' : RRep k t h1 b D := ⟨za, zc, arr, r1⟩
  have none : ∀ e : Int, newestS D = (ck0, e) → ∀ h', Only h.size h1 h' → RNewestP D h (.tuple #[chkV ck0 .none 0, .int .i64 e]) h' := fun e he h' o' => by
    unfold RNewestP
    rw [he]
    exact ⟨.none, 0, rfl, OwnH.nil _ _ _ _, o'.upd.new n1 (Nat.le_refl _)⟩
  refine ld_of (c := .bool) D.down r1.cd (br_of (fun hd => put_out (K := RNewestP D h) (c := ck0) (da := .none) (dc := 0) b1 rfl (none 7 ?_)) fun hd => ?_)
  · have hrd : ∀ z, readS D z = (ck0, 7) := fun z => by unfold readS; rw [if_pos hd]
    unfold newestS
    rw [if_neg (by rintro ⟨_, h⟩; rw [h] at hd; cases hd), hrd, if_pos (.inl rfl)]
  refine ld_of (c := .slice) (some ⟨za, 0, .none⟩, D.zs.length, zc) r1.cz (br_of (fun h2 => put_out (K := RNewestP D h) (c := ck0) (da := .none) (dc := 0) b1 rfl (none 1 ?_)) fun h2 => ?_)
  · have h2 : (D.zs.length : Int) < 2 := of_decide_eq_true h2
    unfold newestS; rw [if_pos ⟨h2, hd⟩]
  have h2 : ¬ (D.zs.length : Int) < 2 := of_decide_eq_false h2
  have ew2 : IntKind.wrap .i64 ((D.zs.length : Int) - 2) = (D.zs.length : Int) - 2 := wr64 (by omega) (by omega)
  have ew1 : IntKind.wrap .i64 ((D.zs.length : Int) - 1) = (D.zs.length : Int) - 1 := wr64 (by omega) (by omega)
  have ca := read_code hd (z := (D.zs.length : Int) - 2) (by omega)
  have cb := read_code hd (z := (D.zs.length : Int) - 1) (by omega)
  have ns : newestS D = if (readS D ((D.zs.length : Int) - 2)).2 = 7 ∨ ((readS D ((D.zs.length : Int) - 2)).2 ≠ 0 ∧ (readS D ((D.zs.length : Int) - 1)).2 ≠ 0) then (ck0, (readS D ((D.zs.length : Int) - 2)).2)
      else if (readS D ((D.zs.length : Int) - 2)).2 ≠ 0 ∨ ((readS D ((D.zs.length : Int) - 1)).2 = 0 ∧ behindB (readS D ((D.zs.length : Int) - 1)).1.num (readS D ((D.zs.length : Int) - 2)).1.num = true) then ((readS D ((D.zs.length : Int) - 1)).1, 0)
      else ((readS D ((D.zs.length : Int) - 2)).1, 0) := by
    conv => lhs; unfold newestS
    rw [if_neg (fun h => h2 h.1)]
  have oka := (readS_ok o ((D.zs.length : Int) - 2)).1.num
  have okb := (readS_ok o ((D.zs.length : Int) - 1)).1.num
  have rd1 := rsread_ok o ((D.zs.length : Int) - 2) h1 r1'
  have rd2 := fun h r => rsread_ok (t := t) (k := k) (b := b) o ((D.zs.length : Int) - 1) h r
  unfold RReadSP at rd1 rd2
  generalize readS D ((D.zs.length : Int) - 2) = A at *
  generalize readS D ((D.zs.length : Int) - 1) = B at *
  refine ld_of (c := .slice) (some ⟨za, 0, .none⟩, D.zs.length, zc) r1.cz ?_
  simp only [ew2]
  refine call_of rd1 ?_
  rintro v h3 ⟨da, dc, rfl, oA, n3⟩
  refine ⟨(chkC A.1 da dc, A.2), rfl, new_stL (by rw [zeroR6]; rfl) fun h4 b4 n4 s4 => ?_⟩
  have b4 : Blk h4 h3.size (chkA A.1 da dc) 46 := b4
  have n14 := n3.trans n4
  obtain ⟨zb, zd, arr4, r4⟩ := r1'.new n14
  refine ld_of (c := .slice) (some ⟨zb, 0, .none⟩, D.zs.length, zd) r4.cz ?_
  simp only [ew1]
  refine call_of (rd2 h4 (r1'.new n14)) ?_
  rintro v h5 ⟨db, dd, rfl, oB, n5⟩
  refine ⟨(chkC B.1 db dd, B.2), rfl, new_stL (by rw [zeroR6]; rfl) fun h6 b6 n6 s6 => ?_⟩
  have b6 : Blk h6 h5.size (chkA B.1 db dd) 46 := b6
  have n46 := n5.trans n6
  have n06 := (n1.trans n14).trans n46
  have b46 := b4.new n46
  have b16 := (b1.new n14).new n46
  have h1lt : h.size < h1.size := by omega
  have outA : newestS D = (A.1, 0) → ∀ h', Only h.size h6 h' → RNewestP D h (.tuple #[chkV A.1 da dc, .int .i64 0]) h' := fun he h' o' => by
    unfold RNewestP
    rw [he]
    exact ⟨da, dc, rfl, OwnH.low (base := h1.size) (((oA.grow n4).grow n46).keep fun g _ hg _ _ => o'.same g (by omega)) n1.size, o'.upd.new n06 (Nat.le_refl _)⟩
  have outB : ∀ e, newestS D = (B.1, e) → ∀ h', Only h.size h6 h' → RNewestP D h (.tuple #[chkV B.1 db dd, .int .i64 e]) h' := fun e he h' o' => by
    unfold RNewestP
    rw [he]
    exact ⟨db, dd, rfl, OwnH.low (base := h4.size) ((oB.grow n6).keep fun g _ hg _ _ => o'.same g (by have := n14.size; omega)) (n1.trans n14).size, o'.upd.new n06 (Nat.le_refl _)⟩
  have na : cellH h6 (Addr.add ⟨h3.size, 0, .none⟩ 0) = some (.int .u32 A.1.num) := by rw [add_mk, cellH_blk b46]; rfl
  have nb : cellH h6 (Addr.add ⟨h5.size, 0, .none⟩ 0) = some (.int .u32 B.1.num) := by rw [add_mk, cellH_blk b6]; rfl
  unfold U32 at oka okb
  refine br_of (fun hA => ldChk b6 (put_out (K := RNewestP D h) (c := B.1) (da := db) (dc := dd) b16 rfl (outB B.2 ?_))) fun hA => ?_
  · have hA : A.2 ≠ 0 := by simpa using hA
    have eA : A = (ck0, 10) := ca.resolve_left hA
    rw [ns]
    rcases cb with hb | hb
    · rw [if_neg (by rintro (x | x); (rw [eA] at x; exact absurd x (by decide)); exact x.2 hb), if_pos (.inl hA), hb]
    · rw [if_pos (.inr ⟨hA, by rw [hb]; decide⟩), eA, hb]
  have hA : A.2 = 0 := by simpa using hA
  rw [if_neg (by rintro (x | x); (rw [hA] at x; exact absurd x (by decide)); exact x.1 hA)] at ns
  have wq : ∀ x : Int, IntKind.wrap .u32 (x + 1) = (x + 1) % 4294967296 := fun x => wru32
  refine cut_q (ts := []) (fun _ h' => h' = h6 ∧ B.2 = 0 ∧ A.1.num ≠ (B.1.num + 1) % 4294967296) ?_ ?_
  rotate_left
  · intro K hK
    refine br_of (fun hB => ldChk b46 (put_out (K := RNewestP D h) (c := A.1) (da := da) (dc := dc) b16 rfl (outA ?_))) fun hB => ?_
    · have hB : B.2 ≠ 0 := by simpa using hB
      rw [ns, if_neg (by rintro (x | x); exact x hA; exact hB x.1)]
    have hB : B.2 = 0 := by simpa using hB
    refine ld_of (c := .int .u32) A.1.num na (ld_of (c := .int .u32) B.1.num nb ?_)
    rw [wq]
    refine br_of (fun he => ldChk b46 (put_out (K := RNewestP D h) (c := A.1) (da := da) (dc := dc) b16 rfl (outA ?_))) fun he => hK () _ ⟨rfl, hB, by simpa using he⟩
    have he : A.1.num = (B.1.num + 1) % 4294967296 := by simpa using he
    have hbh : behindB B.1.num A.1.num = false := by
      unfold behindB
      rw [if_neg (by omega), if_neg (by omega)]
    rw [ns, if_neg (by rintro (x | x); exact x hA; (rw [hbh] at x; cases x.2))]
  rintro _ h' ⟨hh, hB, hne⟩ _; subst h'
  refine cut_q (ts := [.sc .bool]) (fun s h' => s = behindB B.1.num A.1.num ∧ h' = h6) ?_ ?_
  rotate_left
  · intro K hK
    refine ld_of (c := .int .u32) B.1.num nb (ld_of (c := .int .u32) A.1.num na ?_)
    rw [wq]
    refine br_of (fun he => hK _ _ ⟨?_, rfl⟩) fun he => ld_of (c := .int .u32) B.1.num nb (ld_of (c := .int .u32) A.1.num na (hK _ _ ⟨?_, rfl⟩))
    · have he : B.1.num = (A.1.num + 1) % 4294967296 := by simpa using he
      unfold behindB
      rw [if_pos (by omega)]
    · have he : B.1.num ≠ (A.1.num + 1) % 4294967296 := by simpa using he
      unfold behindB
      rw [if_neg (by omega), if_pos (by omega)]
  rintro s h' ⟨rfl, hh⟩ _; subst h'
  refine br_of (fun hb => ldChk b6 (put_out (K := RNewestP D h) (c := B.1) (da := db) (dc := dd) b16 rfl (outB 0 ?_))) fun hb => ldChk b46 (put_out (K := RNewestP D h) (c := A.1) (da := da) (dc := dc) b16 rfl (outA ?_))
  · rw [ns, if_pos (.inr ⟨hB, hb⟩)]
  · have hb : behindB B.1.num A.1.num = false := hb
    rw [ns, if_neg (by rintro (x | x); exact x hA; (rw [hb] at x; cases x.2))]
theorem sown_ok (c : Chk) (da : Option Addr) (dc : Nat) (h : Heap) : CallsH Tryz.prog 15 [chkV c da dc] h fun v h' => v = chkV c da dc ∧ New h h' := by
  refine fun_ok Geo.hm' Tryz.func15 (by kernel_rfl) (F15_eq _ _ _ _ _ _ _ _ _ _ h) ?_
  unfold F15
  refine new_of fun h1 b1 n1 s1 => new_of fun h2 b2 n2 s2 => ?_
  have b1' : Blk h2 h.size (chkA c da dc) 40 := b1.new n2
  rw [zeroR6] at b2
  refine ld_of (c := .int .u32) c.num (by rw [add_mk, cellH_blk b1']; rfl) (ld_of (c := .int .u32) c.ses (by rw [add_mk, cellH_blk b1']; rfl) (ld_of (c := .int .u32) c.seq (by rw [add_mk, cellH_blk b1']; rfl) (ldAgg_add (o := 0) (c.z, c.p, c.b) b1' ⟨rfl, rfl, rfl, trivial⟩ (ld_of (c := .slice) (da, c.dir.length, dc) (by rw [add_mk, cellH_blk b1']; rfl) ?_))))
  refine stL_blk b2 (show 0 + 7 ≤ 7 by omega) fun h3 b3 o3 => ?_
  rw [setsA_all (by rfl)] at b3
  exact ldChk (c := c) (da := da) (dc := dc) b3 ⟨rfl, o3.upd.new (n1.trans n2) (by have := n1.size; omega)⟩
/-- Both devices are told alike. -/
theorem alike_ok {kp kr bp bq : Nat} {t : Tags} {D : Dev} (o : DevOk D) (h : Heap) (hg : Laid h) (rp : PRep kp t h bp D) (rr : RRep kr t h bq D) :
    CallsH Tryz.prog 16 [ptr bp, ptr bq] h fun v h' => v = .bool true ∧ New h h' := by
  refine fun_ok Geo.hm' Tryz.func16 (by kernel_rfl) (F16_eq _ _ _ h) ?_
  unfold F16
  have hzs := o.zones
  obtain ⟨za, zc, arr, r1⟩ := rr
  have rr : RRep kr t h bq D := ⟨za, zc, arr, r1⟩
  refine cut_q (ts := []) (fun _ h' => h' = h) ?_ ?_
  rotate_left
  · intro K hK
    refine ld_of (c := .int .i64) D.ops r1.co (call_of (ops_ok h rp) ?_)
    rintro v h' ⟨rfl, hh⟩; subst h'
    refine ⟨D.ops, rfl, r1.co, br_f (by simp) (ld_of (c := .bool) D.down r1.cd (call_of (down_ok h rp) ?_))⟩
    rintro v h' ⟨rfl, hh⟩; subst h'
    exact ⟨D.down, rfl, r1.cd, r1.co, br_f (by simp) (hK () _ rfl)⟩
  rintro _ h' hh _; subst h'
  refine ld_of (c := .slice) (some ⟨za, 0, none⟩, D.zs.length, zc) r1.cz ?_
  have ew : mm2 true (IntKind.wrap .i64 ((D.zs.length : Int) - 2)) 0 = ((D.zs.length - 2 : Nat) : Int) := by rw [mm2_max, wr64 (by omega) (by omega)]; omega
  simp only [ew]
  refine ⟨fun (s : Int) h' => New h h' ∧ ∃ z : Nat, s = z ∧ z ≤ D.zs.length, fun (s : Int) _ => ((D.zs.length : Int) - s).toNat, ⟨New.refl h, D.zs.length - 2, rfl, by omega⟩, ?_⟩
  rintro s j h1 ⟨n1, z, rfl, hz⟩
  obtain ⟨zb, zd, arr1, r2⟩ := rr.new n1
  refine ld_of (c := .slice) (some ⟨zb, 0, none⟩, D.zs.length, zd) r2.cz (br_of (fun hlt => ?_) fun hlt => ⟨by trivial, n1⟩)
  have hlt : (z : Int) < (D.zs.length : Int) := of_decide_eq_true hlt
  have ezz : IntKind.wrap .i64 ((z : Int) + 1) = ((z + 1 : Nat) : Int) := (by first | (rw [wr64 (by omega) (by omega)]; omega) | (simp only [IntKind.wrap_i64]; omega))
  refine cut_q (ts := []) (fun _ h' => New h h') ?_ ?_
  rotate_left
  · intro K hK
    refine call_of (point_ok (z : Int) h1 (rp.new n1)) ?_
    rintro v h2 ⟨rfl, n2⟩
    refine ⟨(D.point (z : Int) : Int), rfl, call_of (ZnsR.point_ok (z : Int) h2 ((rr.new n1).new n2)) ?_⟩
    rintro v h' ⟨rfl, hh⟩; subst h'
    refine ⟨(D.point (z : Int) : Int), rfl, br_f (by simp) (call_of (sure_ok (z : Int) h2 ((rp.new n1).new n2)) ?_)⟩
    rintro v h3 ⟨rfl, n3⟩
    refine ⟨(D.sure (z : Int) : Int), rfl, call_of (ZnsR.sure_ok (z : Int) h3 (((rr.new n1).new n2).new n3)) ?_⟩
    rintro v h' ⟨rfl, hh⟩; subst h'
    exact ⟨(D.sure (z : Int) : Int), rfl, br_f (by simp) (hK () _ ((n1.trans n2).trans n3))⟩
  rintro _ h2 n2 _
  refine call_of (ZnsR.point_ok (z : Int) h2 (rr.new n2)) ?_
  rintro v h' ⟨rfl, hh⟩; subst h'
  have hpt : D.point (z : Int) ≤ 16 := by have := (o.at_ (z : Int)).most; have := o.pages; unfold Dev.point; omega
  refine ⟨(D.point (z : Int) : Int), rfl, fun (s : Int) h' => New h h' ∧ ∃ q : Nat, s = q ∧ q ≤ D.point (z : Int), fun (s : Int) _ => ((D.point (z : Int) : Int) - s).toNat, ⟨n2, 0, rfl, Nat.zero_le _⟩, ?_⟩
  rintro s j2 h3 ⟨n3, q, rfl, hq⟩
  refine br_of (fun hlt2 => ?_) (fun hlt2 => ?_)
  · have hlt2 : (q : Int) < (D.point (z : Int) : Int) := of_decide_eq_true hlt2
    have ezq : IntKind.wrap .i64 ((q : Int) + 1) = ((q + 1 : Nat) : Int) := (by first | (rw [wr64 (by omega) (by omega)]; omega) | (simp only [IntKind.wrap_i64]; omega))
    refine call_of (ZnsP.read_ok o (z : Int) (q : Int) h3 (rp.new n3)) ?_
    rintro v h4 ⟨a4, c4, rfl, g4⟩
    refine ⟨((a4, (D.read (z : Int) (q : Int)).1.length, c4), errV (D.read (z : Int) (q : Int)).2), rfl, call_of (ZnsR.read_ok o (z : Int) (q : Int) h4 ((rr.new n3).new g4.new)) ?_⟩
    rintro v h5 ⟨a5, c5, rfl, g5⟩
    have hrl : (D.read (z : Int) (q : Int)).1.length ≤ 33 := by
      unfold Dev.read
      split
      · simp
      split
      · simp
      split
      · simp
      split
      · simp
      · rw [List.getD_eq_getElem?_getD]
        cases hx : (D.at_ (z : Int)).pages[(q : Int).toNat]? with
        | none => simp
        | some pg =>
          rcases ((o.at_ (z : Int)).page pg (List.mem_of_getElem? hx)).2 with h | h
          · simp [h]
          · simp [h]
    refine ⟨((a5, (D.read (z : Int) (q : Int)).1.length, c5), (D.read (z : Int) (q : Int)).2), rfl, call_of (Same3.same_ok a4 a5 _ _ c4 c5 h5 (D.read (z : Int) (q : Int)).1 (D.read (z : Int) (q : Int)).1 rfl rfl (show (D.read (z : Int) (q : Int)).1.length ≤ 9223372036854775806 by omega) (g4.ar.new g5.new) g5.ar) ?_⟩
    rintro v h' ⟨rfl, hh⟩; subst h'
    have n5 := (n3.trans g4.new).trans g5.new
    refine ⟨_, rfl, br_f (by simp) (call_of (code_err (D.read (z : Int) (q : Int)).2 h5 (hg.new n5)) ?_)⟩
    rintro v h6 ⟨rfl, n6⟩
    refine ⟨(D.read (z : Int) (q : Int)).2, rfl, br_f (by simp) ?_⟩
    rw [ezq]
    exact ⟨⟨n5.trans n6, q + 1, rfl, by omega⟩, (by first | omega | (dsimp only; omega) | (simp only []; omega))⟩
  · rw [ezz]
    exact ⟨⟨n3, z + 1, rfl, by omega⟩, (by first | omega | (dsimp only; omega) | (simp only []; omega))⟩
end Go.Proofs.YthimfpkkdhpceaaGreatDoor.Slt
/-
  SlotWrites.
-/
namespace Go.Proofs.YthimfpkkdhpceaaGreatDoor.Slt
open Go.Pl Go.Proofs.YthimfpkkdhpceaaGreatDoor.W Go.Proofs.YthimfpkkdhpceaaGreatDoor.Byts Go.Proofs.YthimfpkkdhpceaaGreatDoor.Four Go.Proofs.YthimfpkkdhpceaaGreatDoor.Adl Go.Proofs.YthimfpkkdhpceaaGreatDoor.As Go.Proofs.YthimfpkkdhpceaaGreatDoor.Err Go.Proofs.YthimfpkkdhpceaaGreatDoor.Head Go.Proofs.YthimfpkkdhpceaaGreatDoor.HdP Go.Proofs.YthimfpkkdhpceaaGreatDoor.Geo Go.Proofs.YthimfpkkdhpceaaGreatDoor.Zns Go.Proofs.YthimfpkkdhpceaaGreatDoor.ZnsP Go.Proofs.YthimfpkkdhpceaaGreatDoor.Ck Go.Proofs.YthimfpkkdhpceaaGreatDoor.Rng
theorem racted_upd {k b : Nat} {t : Tags} {h h' : Heap} {D' : Dev} {D : Dev} (r0 : RRep k t h b D) (r : RRep k t h' b D') (u : Upd b h h') : RActed k t h b D' h' := by
  obtain ⟨za, c, arr, r0⟩ := r0
  exact ⟨t, r, Fr.upd u fun hn => hn (by rw [r0.tagB])⟩
theorem newest_dir {D : Dev} (o : DevOk D) : (newestS D).1.dir.length ≤ 16 := by
  have a := (readS_ok o ((D.zs.length : Int) - 2)).2
  have b := (readS_ok o ((D.zs.length : Int) - 1)).2
  unfold newestS
  split
  · decide
  split
  · exact (by decide : ck0.dir.length ≤ 16)
  split
  · exact b
  · exact a
theorem app_len (zone ses num : Int) : ∀ (l : List (List Int)) (D : Dev) (i : Nat), (appS zone ses num D i l).1.zs.length = D.zs.length
  | [], _, _ => rfl
  | b :: l, D, i => by
    have h1 : (D.append zone (pg ses num i b)).1.zs.length = D.zs.length := by
      unfold Dev.append
      simp only []
      split
      · rw [doing_zs]
      · simp [Dev.setZ, doing_zs]
    unfold appS
    split
    · exact h1
    · rw [app_len zone ses num l, h1]
theorem write_len (D : Dev) (c : Chk) : (writeS D c).1.zs.length = D.zs.length := by
  have h1 : (D.reset (whereS D c.num)).1.zs.length = D.zs.length := by
    unfold Dev.reset
    simp only []
    split
    · rw [doing_zs]
    · simp [Dev.setZ, doing_zs]
  unfold writeS
  split
  · rfl
  split
  · exact h1
  split
  · rw [app_len, h1]
  · unfold Dev.flush
    simp only []
    split
    · rw [doing_zs, app_len, h1]
    · simp [Dev.settle, doing_zs, app_len, h1]
theorem writes_law (h : Heap) (v0 v1 v2 v3 : Value) (zones pages fuse : Int) (l : List CkSh.T) (r0 : ReadsV h (.int .i64) v0 zones) (r1 : ReadsV h (.int .i64) v1 pages) (r2 : ReadsV h (.int .i64) v2 fuse) (r3 : ReadsV h (.slice CkSh) v3 l) (hg : Laid h) :
    CallsH Tryz.prog 3 [v0, v1, v2, v3] h fun v h' => v = .bool true ∧ New h h' := by
  obtain ⟨cs0, e0, rfl, _⟩ := r0
  obtain rfl := (List.cons.inj e0).1
  obtain ⟨cs1, e1, rfl, _⟩ := r1
  obtain rfl := (List.cons.inj e1).1
  obtain ⟨cs2, e2, rfl, w2⟩ := r2
  obtain rfl := (List.cons.inj e2).1
  have hfz := i64_wf w2
  obtain ⟨la, lc, rfl, _, _, _, sl⟩ := SlAt.reads r3
  refine fun_ok Geo.hm' Tryz.func3 (by kernel_rfl) (F3_eq zones pages fuse la l.length lc _ h) ?_
  unfold F3
  refine call_of (awake_ok h hg) ?_
  rintro v h1 ⟨rfl, n1⟩
  refine ⟨true, rfl, br_f rfl (call_of (slarge_ok la lc l h1 (sl.new n1)) ?_)⟩
  rintro v h2 ⟨rfl, n2⟩
  have n02 := n1.trans n2
  refine ⟨largeC l, rfl, br_of (fun _ => ⟨rfl, n02⟩) fun hl => ?_⟩
  obtain ⟨hl30, hl100⟩ := largeC_no hl
  by_cases hgd : (1 ≤ zones ∧ zones ≤ 24) ∧ 1 ≤ pages ∧ pages ≤ 16
  rotate_left
  · refine call_of (ZnsP.new_no zones pages h2 hgd) ?_
    rintro v h' ⟨rfl, hh⟩; subst h'
    refine ⟨((none : Option Addr), errV 1), rfl, call_of (ZnsR.new_no zones pages h2 hgd) ?_⟩
    rintro v h' ⟨rfl, hh⟩; subst h'
    refine ⟨((none : Option Addr), (1 : Int)), rfl, cut_q (ts := []) (fun _ _ => False) (fun _ _ hf => hf.elim) ?_⟩
    intro K _
    refine cut_q (ts := [.sc .bool]) (fun s h' => s = true ∧ h' = h2) ?_ ?_
    rotate_left
    · intro K2 hK2
      exact br_t rfl (hK2 _ _ ⟨rfl, rfl⟩)
    rintro s h' ⟨rfl, hh⟩ _; subst h'
    exact br_t rfl ⟨rfl, n02⟩
  obtain ⟨hz, hp⟩ := hgd
  obtain ⟨zn, rfl⟩ := Int.eq_ofNat_of_zero_le (show 0 ≤ zones by omega)
  obtain ⟨pn, rfl⟩ := Int.eq_ofNat_of_zero_le (show 0 ≤ pages by omega)
  refine call_of (ZnsP.new_ok 1 (by decide) (fun _ => (0, 0)) zn pn h2 (by omega) (by omega)) ?_
  rintro v h3 ⟨b, rfl, n3, _, t3, ht3, r3⟩
  have r3 : PRep 1 t3 h3 b (Dev.empty zn pn) := r3
  have z3 : Bz h2 t3 h3 := ⟨n3, fun g hg => by rw [ht3 g hg]⟩
  refine ⟨(some ⟨b, 0, none⟩, errV 0), rfl, call_of (ZnsR.new_ok 2 (by decide) t3 zn pn h3 (by omega) (by omega)) ?_⟩
  rintro v h4 ⟨bq, rfl, n4, _, t4, ht4, q4⟩
  have q4 : RRep 2 t4 h4 bq (Dev.empty zn pn) := q4
  have f34 : Fr (fun _ => True) t3 h3 t4 h4 := ⟨n4.size, ht4, fun g hg _ => n4.same g hg⟩
  have r4 : PRep 1 t4 h4 b (Dev.empty zn pn) := r3.fr f34 (fun _ _ => trivial) fun _ => trivial
  have z4 := z3.fr f34 fun _ _ => trivial
  refine ⟨(some ⟨bq, 0, none⟩, (0 : Int)), rfl, cut_q (ts := []) (fun _ h' => h' = h4) ?_ ?_⟩
  rotate_left
  · intro K hK
    refine cut_q (ts := [.sc .bool]) (fun s h' => s = false ∧ h' = h4) ?_ ?_
    rotate_left
    · intro K2 hK2
      exact br_f rfl (hK2 _ _ ⟨rfl, rfl⟩)
    rintro s h' ⟨rfl, hh⟩ _; subst h'
    exact br_f rfl (hK () _ rfl)
  rintro _ h' hh _; subst h'
  have hS1 : ∀ p : Nat × Nat, p.1 = 0 → p.1 ≠ 1 := fun p hp => by rw [hp]; decide
  have hS2 : ∀ p : Nat × Nat, p.1 = 0 → p.1 ≠ 2 := fun p hp => by rw [hp]; decide
  have rn0 := empty_runs (n := zn) (p := pn) (by omega) (by omega)
  have hzl0 : ((Dev.empty zn pn).zs.length : Int) = (zn : Int) := by simp [Dev.empty]
  have hok0 := rn0.ok
  generalize Dev.empty zn pn = D0 at *
  refine call_of (fuse_ok fuse h4 r4) ?_
  rintro v h5 ⟨rfl, r5, u5⟩
  obtain ⟨t5, r5, f5⟩ := Acted.of_upd r4 r5 u5
  have q5 : RRep 2 t5 h5 bq D0 := q4.fr f5 hS1 fun j => (by decide : (2 : Nat) ≠ 1)
  have z5 := z4.fr f5 hS1
  refine ⟨(), rfl, call_of (ZnsR.fuse_ok fuse h5 q5) ?_⟩
  rintro v h6 ⟨rfl, q6, u6⟩
  obtain ⟨t6, q6, f6⟩ := racted_upd q5 q6 u6
  have r6 : PRep 1 t6 h6 b (D0.setFuse fuse) := r5.fr f6 hS2 fun j => (by decide : (1 : Nat) ≠ 2)
  have z6 := z5.fr f6 hS2
  have hok6 := hok0.setFuse hfz.2
  have hzl6 : ((D0.setFuse fuse).zs.length : Int) = (zn : Int) := hzl0
  generalize D0.setFuse fuse = D6 at *
  refine ⟨(), rfl, fun (s : Int) h' => ∃ (i : Nat) (t : Tags) (D : Dev), s = i ∧ i ≤ l.length ∧ DevOk D ∧ (D.zs.length : Int) = (zn : Int) ∧ PRep 1 t h' b D ∧ RRep 2 t h' bq D ∧ Bz h2 t h', fun (s : Int) _ => ((l.length : Int) - s).toNat, ⟨0, t6, D6, rfl, Nat.zero_le _, hok6, hzl6, r6, q6, z6⟩, ?_⟩
  rintro s j h7 ⟨i, T7, D, rfl, hi, oD, hzl, r7, q7, z7⟩
  have n07 := n02.trans z7.new
  refine br_of (fun hlt => ?_) (fun hlt => ⟨rfl, n07⟩)
  have hlt : (i : Int) < (l.length : Int) := of_decide_eq_true hlt
  have hiL : i < l.length := by omega
  obtain ⟨da, dc, arc, ock, ld⟩ := ck_at sl n07 hiL
  have hdl := hl100 _ (List.getElem_mem hiL)
  refine ld hiL (new_stL (by rw [zeroK]; rfl) fun h8 b8 n8 s8 => ?_)
  have b8 : Blk h8 h7.size (chkA (ckX l[i]) da dc) 40 := b8
  generalize ckX l[i] = c at arc ock hdl b8 ⊢
  have r8 := PRep.lay r7 n8
  have q8 := RRep.lay q7 n8
  have z8 := z7.lay n8 (0, 0)
  have x8 : lay T7 h7.size (0, 0) h7.size = (0, 0) := lay_ge (Nat.le_refl _)
  generalize lay T7 h7.size (0, 0) = T8 at *
  refine cut_q (ts := []) (fun _ h' => ∃ t, PRep 1 t h' b (writeS D c).1 ∧ RRep 2 t h' bq (writeS D c).1 ∧ Bz h2 t h' ∧ Blk h' h7.size (chkA c da dc) 40) ?_ ?_
  rotate_left
  · intro K hK
    refine ldChk b8 (ldChk b8 (call_of (write_ok (k := 1) (by decide) oD c ock da dc h8 r8 (arc.new (n02.trans z8.new))) ?_))
    rintro v h9 ⟨l9, t9, er9, r9, f9⟩
    have q9 : RRep 2 t9 h9 bq D := q8.fr f9 hS1 fun j => (by decide : (2 : Nat) ≠ 1)
    have z9 := z8.fr f9 hS1
    have b9 := f9.blk b8 (by rw [x8]; decide)
    have x9 : t9 h7.size = (0, 0) := by rw [f9.tags _ b8.lt]; exact x8
    refine ⟨v, rfl, asks7 b9 (call_of (Err.code_ok v l9 (writeS D c).2 h9 (hg.new (n02.trans z9.new)) er9.c) ?_)⟩
    rintro v' h10 ⟨rfl, n10⟩
    have b10 := b9.new n10
    refine ⟨(writeS D c).2, rfl, asks7 b10 (call_of (sown_ok c da dc h10) ?_)⟩
    rintro v' h11 ⟨rfl, n11⟩
    have n911 := n10.trans n11
    have q11 : RRep 2 t9 h11 bq D := q9.new n911
    refine ⟨chkC c da dc, rfl, call_of (rwrite_ok (k := 2) (by decide) oD c ock da dc h11 q11 (arc.new ((n02.trans z9.new).trans n911))) ?_⟩
    rintro v' h12 ⟨rfl, t12, q12, f12⟩
    have r12 : PRep 1 t12 h12 b (writeS D c).1 := (r9.new n911).fr f12 hS2 fun j => (by decide : (1 : Nat) ≠ 2)
    have z12 : Bz h2 t12 h12 := (Bz.fr ⟨z9.new.trans n911, z9.tag⟩ f12 hS2)
    have b12 := f12.blk (b9.new n911) (by rw [x9]; decide)
    refine ⟨(writeS D c).2, rfl, br_f (by simp) (call_of (alike_ok (DevOk.write oD ock) h12 (hg.new (n02.trans z12.new)) r12 q12) ?_)⟩
    rintro v' h13 ⟨rfl, n13⟩
    exact ⟨true, rfl, br_f rfl (hK () _ ⟨t12, r12.new n13, q12.new n13, ⟨z12.new.trans n13, z12.tag⟩, b12.new n13⟩)⟩
  rintro _ h9 ⟨t9, r9, q9, z9, b9⟩ _
  have oD' := DevOk.write oD ock
  have hzl' : ((writeS D c).1.zs.length : Int) = (zn : Int) := by rw [← hzl]; exact congrArg _ (write_len D c)
  generalize (writeS D c).1 = D' at *
  have n09 := n02.trans z9.new
  have ew : IntKind.wrap .i64 ((zn : Int) - 3) = (zn : Int) - 3 := wr64 (by omega) (by omega)
  simp only [ew]
  have q9' : ∀ hx, New h9 hx → RRep 2 t9 hx bq D' := fun hx nx => q9.new nx
  refine ⟨fun (s : Int) h' => New h9 h' ∧ (zn : Int) - 3 ≤ s ∧ s ≤ (zn : Int) + 1, fun (s : Int) _ => ((zn : Int) + 1 - s).toNat, ⟨New.refl _, by omega, by omega⟩, ?_⟩
  rintro (s : Int) j2 h10 ⟨n10, hs1, hs2⟩
  have n010 := n09.trans n10
  refine br_of (fun hlt2 => ?_) (fun hlt2 => ?_)
  · have hlt2 : s ≤ (zn : Int) := of_decide_eq_true hlt2
    have ezs : IntKind.wrap .i64 (s + 1) = s + 1 := wr64 (by omega) (by omega)
    have hdd := (readS_ok oD' s).2
    have rp := sread_ok oD' s h10 (r9.new n10)
    have rq := fun h r => rsread_ok (t := t9) (k := 2) (b := bq) oD' s h r
    unfold ReadSP at rp
    unfold RReadSP at rq
    generalize readS D' s = A at *
    refine call_of rp ?_
    rintro v h11 ⟨d11, c11, e11, l11, rfl, er11, o11, n11⟩
    refine ⟨(chkC A.1 d11 c11, e11), rfl, new_stL (by rw [zeroK]; rfl) fun h12 b12 n12 s12 => ?_⟩
    have b12 : Blk h12 h11.size (chkA A.1 d11 c11) 40 := b12
    have n1012 := n11.trans n12
    refine call_of (rq h12 (q9' h12 (n10.trans n1012))) ?_
    rintro v h13 ⟨d13, c13, rfl, o13, n13⟩
    refine ⟨(chkC A.1 d13 c13, A.2), rfl, new_stL (by rw [zeroR6]; rfl) fun h14 b14 n14 s14 => ?_⟩
    have b14 : Blk h14 h13.size (chkA A.1 d13 c13) 46 := b14
    have n1214 := n13.trans n14
    have n014 := (n010.trans n1012).trans n1214
    refine call_of (Err.code_ok e11 l11 A.2 h14 (hg.new n014) ((er11.new n12).new n1214).c) ?_
    rintro v h15 ⟨rfl, n15⟩
    refine ⟨A.2, rfl, br_f (by simp) (ldChk ((b12.new n1214).new n15) (ldChk (b14.new n15) (call_of (sown_ok A.1 d11 c11 h15) ?_)))⟩
    rintro v h16 ⟨rfl, n16⟩
    have n1416 := n15.trans n16
    refine ⟨chkC A.1 d11 c11, rfl, asks7 (b14.new n1416) (call_of (rsame_ok A.1 A.1 d11 d13 c11 c13 h16 (Ar.own (((o11.grow n12).grow n1214).grow n1416)) (Ar.own ((o13.grow n14).grow n1416)) (by omega)) ?_)⟩
    rintro v h17 ⟨rfl, n17⟩
    refine ⟨sameC A.1 A.1, rfl, br_f (by rw [(sameC_iff _ _).2 rfl]; rfl) ?_⟩
    rw [ezs]
    exact ⟨⟨(((n10.trans n1012).trans n1214).trans n1416).trans n17, by omega, by omega⟩, (by first | omega | (dsimp only; omega) | (simp only []; omega))⟩
  have hdd := newest_dir oD'
  have rp := newest_ok oD' h10 (r9.new n10)
  have rq := fun h r => rnewest_ok (t := t9) (k := 2) (b := bq) oD' h r
  unfold NewestP at rp
  unfold RNewestP at rq
  generalize newestS D' = A at *
  refine call_of rp ?_
  rintro v h11 ⟨d11, c11, e11, l11, rfl, er11, o11, n11⟩
  refine ⟨(chkC A.1 d11 c11, e11), rfl, new_stL (by rw [zeroK]; rfl) fun h12 b12 n12 s12 => ?_⟩
  have b12 : Blk h12 h11.size (chkA A.1 d11 c11) 40 := b12
  have n1012 := n11.trans n12
  refine call_of (rq h12 (q9' h12 (n10.trans n1012))) ?_
  rintro v h13 ⟨d13, c13, rfl, o13, n13⟩
  refine ⟨(chkC A.1 d13 c13, A.2), rfl, new_stL (by rw [zeroR6]; rfl) fun h14 b14 n14 s14 => ?_⟩
  have b14 : Blk h14 h13.size (chkA A.1 d13 c13) 46 := b14
  have n1214 := n13.trans n14
  have n014 := (n010.trans n1012).trans n1214
  refine call_of (Err.code_ok e11 l11 A.2 h14 (hg.new n014) ((er11.new n12).new n1214).c) ?_
  rintro v h15 ⟨rfl, n15⟩
  refine ⟨A.2, rfl, br_f (by simp) (ldChk ((b12.new n1214).new n15) (ldChk (b14.new n15) (call_of (sown_ok A.1 d11 c11 h15) ?_)))⟩
  rintro v h16 ⟨rfl, n16⟩
  have n1416 := n15.trans n16
  refine ⟨chkC A.1 d11 c11, rfl, asks7 (b14.new n1416) (call_of (rsame_ok A.1 A.1 d11 d13 c11 c13 h16 (Ar.own (((o11.grow n12).grow n1214).grow n1416)) (Ar.own ((o13.grow n14).grow n1416)) (by omega)) ?_)⟩
  rintro v h17 ⟨rfl, n17⟩
  have n917 := (((n10.trans n1012).trans n1214).trans n1416).trans n17
  have b917 := b9.new n917
  have ezi : IntKind.wrap .i64 ((i : Int) + 1) = ((i + 1 : Nat) : Int) := (by first | (rw [wr64 (by omega) (by omega)]; omega) | (simp only [IntKind.wrap_i64]; omega))
  simp only [ezi]
  have nxt : ∀ hx, New h9 hx → (∃ (i' : Nat) (t : Tags) (D : Dev), ((i + 1 : Nat) : Int) = i' ∧ i' ≤ l.length ∧ DevOk D ∧ (D.zs.length : Int) = (zn : Int) ∧ PRep 1 t hx b D ∧ RRep 2 t hx bq D ∧ Bz h2 t hx) ∧ ((l.length : Int) - ((i + 1 : Nat) : Int)).toNat < ((l.length : Int) - (i : Int)).toNat := fun hx nx => ⟨⟨i + 1, t9, D', rfl, hiL, oD', hzl', r9.new nx, q9.new nx, ⟨z9.new.trans nx, z9.tag⟩⟩, by omega⟩
  refine ⟨sameC A.1 A.1, rfl, br_f (by rw [(sameC_iff _ _).2 rfl]; rfl) (br_of (fun _ => ?_) fun _ => nxt _ n917)⟩
  have cN : ∀ hx, New h9 hx → cellH hx (Addr.add ⟨h7.size, 0, none⟩ 0) = some (.int .u32 c.num) := fun hx nx => by rw [add_mk, cellH_blk (b9.new nx)]; rfl
  refine ld_of (c := .int .u32) c.num (cN _ n917) (ld_of (c := .int .u32) c.num (cN _ n917) (call_of (where_ok oD' c.num ock.num h17 (r9.new n917)) ?_))
  rintro v h' ⟨rfl, hh⟩; subst h'
  refine ⟨whereS D' c.num, rfl, cN _ n917, call_of (rwhere_ok oD' c.num ock.num h17 (q9' _ n917)) ?_⟩
  rintro v h' ⟨rfl, hh⟩; subst h'
  exact ⟨whereS D' c.num, rfl, br_f (by simp) (nxt _ n917)⟩
end Go.Proofs.YthimfpkkdhpceaaGreatDoor.Slt
/-
  What stays: blocks that belong to nobody.
-/
namespace Go.Proofs.YthimfpkkdhpceaaGreatDoor.L7A
open Go.Pl Go.Proofs.YthimfpkkdhpceaaGreatDoor.W Go.Proofs.YthimfpkkdhpceaaGreatDoor.Byts Go.Proofs.YthimfpkkdhpceaaGreatDoor.As Go.Proofs.YthimfpkkdhpceaaGreatDoor.Zns
abbrev ptr (b : Nat) : Value := .pointer (some ⟨b, 0, none⟩)
abbrev PRep := DRep LoP
abbrev RRep := DRep LoR
/-- All that was there stays; it belongs to nobody. -/
structure Bs (h0 : Heap) (t : Tags) (h : Heap) : Prop where
  new : New h0 h
  tag : ∀ b, b < h0.size → (t b).1 = 0
  laid : Laid h0
theorem Bs.start {h0 : Heap} (l : Laid h0) : Bs h0 (fun _ => (0, 0)) h0 := ⟨New.refl h0, fun _ _ => rfl, l⟩
theorem Bs.lay {h0 h : Heap} {t : Tags} (b : Bs h0 t h) : Laid h := b.laid.new b.new
theorem Bs.fr {S : Nat × Nat → Prop} {h0 h h' : Heap} {t t' : Tags} (b : Bs h0 t h) (f : Fr S t h t' h') (hS : ∀ p : Nat × Nat, p.1 = 0 → S p) : Bs h0 t' h' :=
  ⟨f.new b.new fun c hc => hS _ (b.tag c hc), fun c hc => by rw [f.tags c (Nat.lt_of_lt_of_le hc b.new.size)]; exact b.tag c hc, b.laid⟩
theorem Bs.own {k : Nat} {h0 h h' : Heap} {t t' : Tags} (b : Bs h0 t h) (hk : k ≠ 0) (f : Fr (fun p => p.1 ≠ k) t h t' h') : Bs h0 t' h' := b.fr f fun p hp e => hk (by rw [← e]; exact hp)
theorem Bs.newer {h0 h h' : Heap} {t : Tags} (b : Bs h0 t h) (n : New h h') : Bs h0 t h' := ⟨b.new.trans n, b.tag, b.laid⟩
theorem Bs.tags {h0 h h' : Heap} {t t' : Tags} (b : Bs h0 t h) (n : New h h') (ht : ∀ g, g < h.size → t' g = t g) : Bs h0 t' h' := ⟨b.new.trans n, fun c hc => by rw [ht c (Nat.lt_of_lt_of_le hc b.new.size)]; exact b.tag c hc, b.laid⟩
theorem Bs.im {k : IntKind} {h0 h : Heap} {t : Tags} (b : Bs h0 t h) {a : Option Addr} {xs : List Int} (r : Ar k h0 a xs) : Im k t h a xs := ⟨r.new b.new, fun hx g hg => by
  obtain ⟨g', o, e, hl⟩ := r.lt' hx
  subst e; injection hg with hg; change g' = g at hg; subst hg
  exact b.tag _ hl⟩
theorem ints_in {k : IntKind} {h : Heap} {cs : List Value} {l : List Int} (r : Reads h (.slice (.int k)) cs l) : ∃ a c, cs = [.slice a l.length c] ∧ Ar k h a l ∧ ∀ x ∈ l, (Lit.int k x).wf = true := by
  have r' := r
  obtain ⟨a, c, e, _⟩ := r
  subst e
  obtain ⟨a', c', e', _, _, _, har, hw⟩ := Ar.reads (h := h) (v := .slice a (List.length (α := (Sh.int k).T) l) c) (xs := l) ⟨_, rfl, r'⟩
  injection e' with e1 e2 e3
  subst e1
  exact ⟨a, c, rfl, har, hw⟩
end Go.Proofs.YthimfpkkdhpceaaGreatDoor.L7A
/-
  A device with pages: what the program and the reference make of them.
-/
namespace Go.Proofs.YthimfpkkdhpceaaGreatDoor.ZnsL
open Go.Pl Go.Proofs.YthimfpkkdhpceaaGreatDoor.W Go.Proofs.YthimfpkkdhpceaaGreatDoor.Byts Go.Proofs.YthimfpkkdhpceaaGreatDoor.As Go.Proofs.YthimfpkkdhpceaaGreatDoor.Zns Go.Proofs.YthimfpkkdhpceaaGreatDoor.L7A
/- WHAT IS MADE OF THEM. -/
/-- i zones are there, of the next one m pages. -/
def half (l : List (List (List Int))) (i m : Nat) : List Zn := l.mapIdx fun j x => if j < i then ⟨x, x.length, false⟩ else if j = i then ⟨x.take m, 0, false⟩ else Zn.bare
def devL (l : List (List (List Int))) (P i m : Nat) : Dev := ⟨half l i m, P, -1, 0, false⟩
def loaded (l : List (List (List Int))) (P : Nat) : Dev := ⟨l.map fun x => ⟨x, x.length, false⟩, P, -1, 0, false⟩
def okZ (P : Int) (z : List (List Int)) : Prop := (z.length : Int) ≤ P ∧ ∀ p ∈ z, p.length = 0 ∨ p.length = 33
def Good (l : List (List (List Int))) (P : Int) : Prop := ((1 ≤ (l.length : Int) ∧ (l.length : Int) ≤ 24) ∧ 1 ≤ P ∧ P ≤ 16) ∧ ∀ z ∈ l, okZ P z
theorem half_len (l : List (List (List Int))) (i m : Nat) : (half l i m).length = l.length := by simp [half]
theorem half_zero (l : List (List (List Int))) : half l 0 0 = List.replicate l.length Zn.bare := by
  apply List.ext_getElem?
  intro j
  simp only [half, List.getElem?_mapIdx, List.getElem?_replicate]
  cases hj : l[j]? with
  | none => rw [if_neg (by have := List.getElem?_eq_none_iff.1 hj; omega)]; rfl
  | some x =>
    rw [if_pos (List.getElem?_eq_some_iff.1 hj).1]
    simp only [Option.map_some]
    split
    · omega
    · split
      · rw [List.take_zero]; rfl
      · rfl
theorem half_at {l : List (List (List Int))} {i m : Nat} (hi : i < l.length) : (half l i m)[i]? = some ⟨l[i].take m, 0, false⟩ := by
  simp only [half, List.getElem?_mapIdx, List.getElem?_eq_getElem hi, Option.map_some]
  rw [if_neg (by omega)]; simp
theorem half_page {l : List (List (List Int))} {i m : Nat} (hi : i < l.length) (hm : m < l[i].length) : (half l i m).set i ⟨l[i].take m ++ [l[i][m]], 0, false⟩ = half l i (m + 1) := by
  apply List.ext_getElem?
  intro j
  by_cases hj : i = j
  · subst hj
    rw [List.getElem?_set_self (by rw [half_len]; exact hi), half_at hi, List.take_append_getElem hm]
  · rw [List.getElem?_set_ne hj]
    simp only [half, List.getElem?_mapIdx]
    cases l[j]? with
    | none => rfl
    | some x => simp only [Option.map_some]; rw [if_neg (c := j = i) (by omega), if_neg (c := j = i) (by omega)]
theorem half_zone {l : List (List (List Int))} {i : Nat} (hi : i < l.length) : (half l i l[i].length).set i ⟨l[i].take l[i].length, l[i].length, false⟩ = half l (i + 1) 0 := by
  apply List.ext_getElem?
  intro j
  by_cases hj : i = j
  · subst hj
    rw [List.getElem?_set_self (by rw [half_len]; exact hi)]
    simp only [half, List.getElem?_mapIdx, List.getElem?_eq_getElem hi, Option.map_some]
    rw [if_pos (by omega), List.take_length]
  · rw [List.getElem?_set_ne hj]
    simp only [half, List.getElem?_mapIdx]
    cases l[j]? with
    | none => rfl
    | some x =>
      simp only [Option.map_some]
      congr 1
      by_cases h1 : j < i
      · rw [if_pos h1, if_pos (by omega)]
      · rw [if_neg h1, if_neg (by omega), if_neg (by omega)]
        split
        · rfl
        · rfl
theorem half_all (l : List (List (List Int))) : half l l.length 0 = l.map fun x => ⟨x, x.length, false⟩ := by
  apply List.ext_getElem?
  intro j
  simp only [half, List.getElem?_mapIdx, List.getElem?_map]
  cases hj : l[j]? with
  | none => rfl
  | some x => simp only [Option.map_some]; rw [if_pos (List.getElem?_eq_some_iff.1 hj).1]
theorem Zn_bare : Zn.bare = ⟨[], 0, false⟩ := rfl
theorem loaded_ok {l : List (List (List Int))} {P : Nat} (g : Good l P) (hb : ∀ z ∈ l, ∀ p ∈ z, Byt p) : DevOk (loaded l P) := by
  obtain ⟨⟨h1, h2⟩, h3⟩ := g
  refine ⟨by simp only [loaded, List.length_map]; omega, by simp only [loaded]; omega, ⟨by simp [loaded], by simp [loaded]⟩, fun Z hZ => ?_⟩
  simp only [loaded, List.mem_map] at hZ
  obtain ⟨z, hz, rfl⟩ := hZ
  obtain ⟨h4, h5⟩ := h3 z hz
  refine ⟨Nat.le_refl _, by simp only [loaded]; omega, fun p hp => ⟨hb z hz p hp, ?_⟩⟩
  rcases h5 p hp with h6 | h6
  · exact .inr (List.eq_nil_of_length_eq_zero h6)
  · exact .inl h6
/- WHAT CAME IN. -/
theorem zone_ld {h0 : Heap} {a : Option Addr} {l : List (List (List Int))} (r : SlAt h0 (.slice (.slice (.int .u8))) a l) {i : Nat} (hi : i < l.length) : ∃ a1 c1, SlAt h0 (.slice (.int .u8)) a1 l[i] ∧
    ∀ {h : Heap}, New h0 h → ∀ {m : Nat} {F : Option Addr × Nat × Nat → Prop}, i < m → F (a1, l[i].length, c1) → ptrW a (fun p => idxW (i : Int) m true (ldW .slice (Addr.add p (Int.toNat (i : Int) * 1)) F h)) := by
  obtain ⟨b, o, es, rfl, hb, hl, hc, re⟩ := r i _ (List.getElem?_eq_getElem hi)
  obtain ⟨a1, c1, rfl, _, _, _, sl⟩ := re
  refine ⟨a1, c1, sl, fun n _ _ hm hF => ⟨⟨by omega, rfl⟩, ld_of (c := .slice) (a1, l[i].length, c1) ?_ hF⟩⟩
  have := hc 0 Nat.one_pos
  rw [Int.toNat_natCast, add_mk, cellH_same (n.same b hb), Nat.mul_one]
  simp [Sh.n] at this
  exact this
theorem page_ld {h0 : Heap} {a : Option Addr} {l : List (List Int)} (r : SlAt h0 (.slice (.int .u8)) a l) {i : Nat} (hi : i < l.length) : ∃ a1 c1, Ar .u8 h0 a1 l[i] ∧ Byt l[i] ∧
    ∀ {h : Heap}, New h0 h → ∀ {m : Nat} {F : Option Addr × Nat × Nat → Prop}, i < m → F (a1, l[i].length, c1) → ptrW a (fun p => idxW (i : Int) m true (ldW .slice (Addr.add p (Int.toNat (i : Int) * 1)) F h)) := by
  obtain ⟨b, o, es, rfl, hb, hl, hc, re⟩ := r i _ (List.getElem?_eq_getElem hi)
  obtain ⟨a1, c1, rfl, ar, wf⟩ := ints_in (l := l[i]) re
  refine ⟨a1, c1, ar, Byt.wf wf, fun n _ _ hm hF => ⟨⟨by omega, rfl⟩, ld_of (c := .slice) (a1, l[i].length, c1) ?_ hF⟩⟩
  have := hc 0 Nat.one_pos
  rw [Int.toNat_natCast, add_mk, cellH_same (n.same b hb), Nat.mul_one]
  simp [Sh.n] at this
  exact this
theorem byts_in {h0 : Heap} {a : Option Addr} {l : List (List (List Int))} (r : SlAt h0 (.slice (.slice (.int .u8))) a l) : ∀ z ∈ l, ∀ p ∈ z, Byt p := fun z hz p hp => by
  obtain ⟨i, hi, rfl⟩ := List.getElem_of_mem hz
  obtain ⟨a1, c1, sl, _⟩ := zone_ld r hi
  obtain ⟨j, hj, rfl⟩ := List.getElem_of_mem hp
  obtain ⟨_, _, _, hb, _⟩ := page_ld sl hj
  exact hb
/- TAGS TOLD ANEW. -/
theorem PRow.retag {k z : Nat} {t t' : Tags} {h : Heap} {a : Option Addr} {c : Nat} {pages : List (List Int)} (r : PRow k z t h a c pages) (hr : ∀ g, (t g).1 = 0 ∨ (t g).1 = k → t' g = t g) : PRow k z t' h a c pages := by
  obtain ⟨⟨vs, h1, hv⟩, ht⟩ := r
  refine ⟨⟨vs, h1, fun i p hp => ?_⟩, fun g hg => ⟨(ht g hg).1, by rw [hr g (.inr (by rw [(ht g hg).2]))]; exact (ht g hg).2⟩⟩
  obtain ⟨a', c', e, im⟩ := hv i p hp
  exact ⟨a', c', e, ⟨im.1.ar, fun hx g hg => by rw [hr g (.inl (im.1.im hx g hg))]; exact im.1.im hx g hg⟩, im.2⟩
theorem DRep.retag {L : Lo} {k b : Nat} {t t' : Tags} {h : Heap} {D : Dev} (r : DRep L k t h b D) (hr : ∀ g, (t g).1 = 0 ∨ (t g).1 = k → t' g = t g) : DRep L k t' h b D := by
  obtain ⟨za, c, arr, r⟩ := r
  refine ⟨za, c, arr, r.own, r.blk, by rw [hr b (.inr (by rw [r.tagB]))]; exact r.tagB, r.zblk, by rw [hr za (.inr (by rw [r.tagZ]))]; exact r.tagZ, r.size, r.le, r.max, fun z Z hz => ?_⟩
  obtain ⟨a, d, h1, h2⟩ := r.zone z Z hz
  exact ⟨a, d, h1, PRow.retag h2 hr⟩
/- THE PROGRAM'S. -/
theorem PD.pages {k b za c z : Nat} {t t2 : Tags} {h h2 h3 : Heap} {arr : Array Value} {D : Dev} (r : DR LoP k t h b za c arr D) (hz : z < D.zs.length) (f : Fr (fun q => q ≠ (k, 2 + z)) t h t2 h2) {a2 : Option Addr} {c2 : Nat} {pages : List (List Int)} (hp : PRow k z t2 h2 a2 c2 pages)
    (hb : Blk h3 za (arr.setIfInBounds (z * 3 + 2) (.slice a2 pages.length c2)) 121) (o : Only za h2 h3) :
    DR LoP k t2 h3 b za c (arr.setIfInBounds (z * 3 + 2) (.slice a2 pages.length c2)) { D with zs := D.zs.set z { D.zs[z] with pages := pages } } ∧ Fr (fun p => p.1 ≠ k) t h t2 h3 := by
  obtain ⟨a, d, _, c0, c1, c2'⟩ := r.zP hz
  have hk := r.own
  have hsz := r.size; have hle := r.le
  have hS : ∀ q : Nat × Nat, q.1 = 0 → q ≠ (k, 1) := fun q hq e => by subst e; exact hk hq
  have hS2 : ∀ q : Nat × Nat, q.1 = 0 → q ≠ (k, 2 + z) := fun q hq e => by subst e; exact hk hq
  have f2 : Fr (fun q => q ≠ (k, 1)) t2 h2 t2 h3 := Fr.upd o.upd fun hn => hn (by rw [f.tags za r.zblk.lt]; exact r.tagZ)
  have f3 : Fr (fun q => q ≠ (k, 1) ∧ q ≠ (k, 2 + z)) t h t2 h3 := (f.mono fun _ hq => hq.2).trans (f2.mono fun _ hq => hq.1)
  obtain ⟨q1, q2, q3, q4⟩ := set3 (arr := arr) (z := z) (o := 2) (n := z * 3 + 2) (v := .slice a2 pages.length c2) (by omega) (by omega) rfl
  refine ⟨r.put (Z := { D.zs[z] with pages := pages }) f3 (fun q hq => ⟨hS q hq, hS2 q hq⟩) ⟨tagne (by omega), tagne (by omega)⟩ (fun j hj => ⟨tagne (by omega), tagne (by omega)⟩) hb q1 q2 ⟨a2, c2, fun j hj => ?_, hp.fr f2 hS (tagne (by omega))⟩, f3.mono fun q hq => ⟨fun e => hq (by rw [e]), fun e => hq (by rw [e])⟩⟩
  match j, hj with
  | 0, _ => rw [q4 0 (by omega) (by omega)]; exact c0
  | 1, _ => rw [q4 1 (by omega) (by omega)]; exact c1
  | 2, _ => exact q3
/-- A new device: what was there stays. -/
def NewDev' (L : Lo) (k : Nat) (t : Tags) (h : Heap) (b : Nat) (D : Dev) (h' : Heap) : Prop := New h h' ∧ ∃ t', (∀ g, g < h.size → t' g = t g) ∧ DRep L k t' h' b D
def LoadP (L : Lo) (e0 : Value) (e1 : Value) (k : Nat) (t : Tags) (h : Heap) (l : List (List (List Int))) (P : Int) (v : Value) (h' : Heap) : Prop :=
  (v = .tuple #[.pointer none, e1] ∧ ¬ Good l P ∧ New h h') ∨ ∃ b, v = .tuple #[ptr b, e0] ∧ Good l P ∧ NewDev' L k t h b (loaded l P.toNat) h'
theorem takes_succ {α : Type} {q : α → Prop} {l : List α} {i : Nat} (hi : i < l.length) (h : ∀ x ∈ l.take i, q x) (hx : q l[i]) : ∀ x ∈ l.take (i + 1), q x := fun x hm => by
  rw [← List.take_append_getElem hi] at hm
  rcases List.mem_append.1 hm with hm | hm
  · exact h x hm
  · obtain rfl := List.mem_singleton.1 hm; exact hx
theorem load_ok {k : Nat} (hk : k ≠ 0) {t : Tags} {h0 h : Heap} (bs : Bs h0 t h) (hf : ∀ g, g < h.size → (t g).1 ≠ k) (P : Int) (a : Option Addr) (c : Nat) (l : List (List (List Int))) (sl : SlAt h0 (.slice (.slice (.int .u8))) a l) (hl : l.length ≤ 30) (hs : ∀ z ∈ l, z.length ≤ 30 ∧ ∀ p ∈ z, p.length ≤ 100) :
    CallsH Tryz.prog 28 [.int .i64 P, .slice a l.length c] h (LoadP LoP (errV 0) (errV 1) k t h l P) := by
  refine fun_ok hm' Tryz.func28 (by kernel_rfl) (F28_eq _ _ _ _ _ h) ?_
  unfold F28
  by_cases hn : ¬ ((1 ≤ (l.length : Int) ∧ (l.length : Int) ≤ 24) ∧ 1 ≤ P ∧ P ≤ 16)
  · refine call_of (ZnsP.new_no (l.length : Int) P h hn) ?_
    rintro v h' ⟨rfl, hh⟩; subst h'
    exact ⟨(none, errV 1), rfl, errV_if 1, br_t rfl (.inl ⟨rfl, fun g => hn g.1, New.refl h⟩)⟩
  have hn := Classical.not_not.1 hn
  obtain ⟨pp, rfl⟩ := Int.eq_ofNat_of_zero_le (show 0 ≤ P by omega)
  refine call_of (ZnsP.new_ok k hk t l.length pp h (by omega) (by omega)) ?_
  rintro v h1 ⟨b, rfl, n1, hb, t1, ht1, r1⟩
  have hD0 : Dev.empty l.length pp = devL l pp 0 0 := by unfold Dev.empty devL; rw [half_zero]
  rw [hD0] at r1
  obtain ⟨za, d, arr, r1⟩ := r1
  have nw : ∀ {t' : Tags} {h' : Heap}, Fr (fun q => q.1 ≠ k) t1 h1 t' h' → New h h' := fun f => f.new n1 fun g hg => by rw [ht1 g hg]; exact hf g hg
  have bs1 := bs.tags n1 ht1
  refine ⟨(some ⟨b, 0, none⟩, errV 0), rfl, errV_if 0, br_f rfl ?_⟩
  refine ⟨fun (s : Int) h' => ∃ (i : Nat) (t' : Tags) (arr' : Array Value), s = i ∧ i ≤ l.length ∧ (∀ z ∈ l.take i, okZ pp z) ∧ DR LoP k t' h' b za d arr' (devL l pp i 0) ∧ Fr (fun q => q.1 ≠ k) t1 h1 t' h', fun (s : Int) _ => ((l.length : Int) - s).toNat, ⟨0, t1, arr, rfl, Nat.zero_le _, by simp, r1, Fr.refl _ _ _⟩, ?_⟩
  rintro s j h2 ⟨i, t2, arr2, rfl, hi, hall, r2, f2⟩
  refine br_of (fun hlt => ?_) (fun hlt => ?_)
  rotate_left
  · have hie : i = l.length := by have := of_decide_eq_false hlt; omega
    subst hie
    rw [List.take_length] at hall
    refine .inr ⟨b, rfl, ⟨hn, hall⟩, nw f2, ?_⟩
    have : devL l pp l.length 0 = loaded l pp := by unfold devL loaded; rw [half_all]
    rw [this] at r2
    exact ⟨t2, fun g hg => by rw [f2.tags g (Nat.lt_of_lt_of_le hg n1.size), ht1 g hg], za, d, arr2, r2⟩
  have hlt : i < l.length := by have := of_decide_eq_true hlt; omega
  have bs2 := bs1.own hk f2
  obtain ⟨a1, c1, sl1, ld1⟩ := zone_ld sl hlt
  refine ld1 bs2.new hlt (br_of (fun hg => .inl ⟨rfl, fun g => ?_, nw f2⟩) fun hg => ?_)
  · have := (g.2 _ (List.getElem_mem hlt)).1; have hg : (l[i].length : Int) > pp := of_decide_eq_true hg; omega
  have hg : ¬ (l[i].length : Int) > pp := of_decide_eq_false hg
  have hg : (l[i].length : Int) ≤ pp := by omega
  have hsz := hs _ (List.getElem_mem hlt)
  refine ⟨fun (s : Int) h' => ∃ (m : Nat) (t' : Tags) (arr' : Array Value), s = m ∧ m ≤ l[i].length ∧ (∀ p ∈ l[i].take m, p.length = 0 ∨ p.length = 33) ∧ DR LoP k t' h' b za d arr' (devL l pp i m) ∧ Fr (fun q => q.1 ≠ k) t1 h1 t' h', fun (s : Int) _ => ((l[i].length : Int) - s).toNat, ⟨0, t2, arr2, rfl, Nat.zero_le _, by simp, r2, f2⟩, ?_⟩
  rintro s j2 h3 ⟨m, t3, arr3, rfl, hm, hall3, r3, f3⟩
  have bs3 := bs1.own hk f3
  have hz3 : i < (devL l pp i m).zs.length := by show i < (half l i m).length; rw [half_len]; exact hlt
  have eZ : (devL l pp i m).zs[i] = ⟨l[i].take m, 0, false⟩ := by
    have := half_at (m := m) hlt
    rw [List.getElem?_eq_getElem (by rw [half_len]; exact hlt)] at this
    exact Option.some.inj this
  have hsz3 := r3.size; have hle3 := r3.le
  refine br_of (fun hlt2 => ?_) (fun hlt2 => ?_)
  rotate_left
  · have hlt2 : ¬ (m : Int) < (l[i].length : Int) := of_decide_eq_false hlt2
    have hme : m = l[i].length := by omega
    subst hme
    refine ptr_of (ld_of (c := .slice) (some ⟨za, 0, none⟩, (devL l pp i l[i].length).zs.length, d) r3.cz (ptr_of (ix_of hz3 ?_)))
    rw [add_mk, add_mk, add_mk, Int.toNat_natCast, Nat.zero_add, Nat.add_zero]
    refine st_blk r3.zblk (by omega) fun h4 b4 o4 => ?_
    have r4 := ZnsP.PD.setSure r3 hz3 l[i].length b4 o4
    rw [wr64 (by omega) (by omega)]
    have e : { devL l pp i l[i].length with zs := (devL l pp i l[i].length).zs.set i { (devL l pp i l[i].length).zs[i] with sure := l[i].length } } = devL l pp (i + 1) 0 := by
      rw [eZ]; unfold devL; simp only [half_zone hlt]
    rw [e] at r4
    exact ⟨⟨i + 1, t3, _, rfl, hlt, takes_succ hlt hall ⟨hg, by rw [List.take_length] at hall3; exact hall3⟩, r4, f3.trans (Fr.upd o4.upd fun hn => hn (by rw [r3.tagZ]))⟩, (by first | omega | (dsimp only; omega) | (simp only []; omega))⟩
  have hlt2 : (m : Int) < (l[i].length : Int) := of_decide_eq_true hlt2
  have hlt2 : m < l[i].length := by omega
  obtain ⟨a2, c2, ar2, _, ld2⟩ := page_ld sl1 hlt2
  refine ld2 bs3.new hlt2 (cut_q (ts := []) (fun _ h' => h' = h3 ∧ (l[i][m].length = 0 ∨ l[i][m].length = 33)) ?_ ?_)
  rotate_left
  · intro K hK
    refine br_of (fun h0 => br_of (fun h33 => .inl ⟨rfl, fun g => ?_, nw f3⟩) fun h33 => hK () _ ⟨rfl, .inr ?_⟩) fun h0 => hK () _ ⟨rfl, .inl ?_⟩
    · have := (g.2 _ (List.getElem_mem hlt)).2 _ (List.getElem_mem hlt2)
      simp only [bne_iff_ne, ne_eq] at h0 h33
      omega
    · have : ((l[i][m].length : Nat) : Int) = 33 := by simpa using h33
      omega
    · have : ((l[i][m].length : Nat) : Int) = 0 := by simpa using h0
      omega
  rintro _ h' ⟨hh, hp33⟩ _; subst h'
  obtain ⟨a3, d3, hp, _, _, e2⟩ := r3.zP hz3
  rw [eZ] at hp e2
  have hpl : (l[i].take m).length = m := by rw [List.length_take]; omega
  refine ptr_of (ld_of (c := .slice) (some ⟨za, 0, none⟩, (devL l pp i m).zs.length, d) r3.cz (ptr_of (ld_of (c := .slice) (some ⟨za, 0, none⟩, (devL l pp i m).zs.length, d) r3.cz (ptr_of (ix_of hz3 ?_)))))
  refine ld_of (c := .slice) (a3, (l[i].take m).length, d3) (by rw [add_mk, add_mk, Int.toNat_natCast]; exact r3.cell e2 _ (by omega)) (call_of (Head.clone_ok a2 c2 l[i][m] _ rfl h3 (ar2.new bs3.new) (by omega)) ?_)
  rintro v h4 ⟨a4, k4, rfl, g4⟩
  refine ⟨(a4, l[i][m].length, k4), rfl, ?_, g4.new.ext⟩
  have r4 : DR LoP k (lay t3 h3.size (0, 0)) h4 b za d arr3 (devL l pp i m) := r3.fr (S := fun _ => True) (Fr.lay g4.new _) (fun _ _ => trivial) fun _ => trivial
  have hp4 : PRow k i (lay t3 h3.size (0, 0)) h4 a3 d3 (l[i].take m) := hp.fr (S := fun _ => True) (Fr.lay g4.new _) (fun _ _ => trivial) trivial
  have im4 : Im .u8 (lay t3 h3.size (0, 0)) h4 a4 l[i][m] := Im.got g4 (0, 0) rfl
  have cp4 : Cp a4 l[i][m].length k4 := ⟨g4.row.le, g4.row.capMax, fun e => by subst e; exact g4.row.none0.2.1⟩
  have f4 : Fr (fun q => q.1 ≠ k) t1 h1 (lay t3 h3.size (0, 0)) h4 := f3.trans (Fr.lay g4.new _)
  generalize lay t3 h3.size (0, 0) = t4 at r4 hp4 im4 f4
  refine PRow.push hp4 hk im4 cp4 (by omega) fun a5 c5 h5 t5 f5 hp5 => ?_
  have bD := f5.blk r4.blk (by rw [r4.tagB]; exact tagne (by omega))
  have bZ := f5.blk r4.zblk (by rw [r4.tagZ]; exact tagne (by omega))
  refine ⟨by rw [add_mk, cellH_blk bD]; rfl, ptr_of (ix_of hz3 ?_)⟩
  rw [add_mk, add_mk, Int.toNat_natCast, Nat.zero_add]
  have hlen : (l[i].take m ++ [l[i][m]]).length = (l[i].take m).length + 1 := by rw [List.length_append]; rfl
  refine st_blk bZ (by omega) fun h6 b6 o6 => ?_
  rw [← hlen] at b6
  obtain ⟨r6, f6⟩ := PD.pages r4 hz3 f5 hp5 b6 o6
  rw [wr64 (by omega) (by omega)]
  have e : { devL l pp i m with zs := (devL l pp i m).zs.set i { (devL l pp i m).zs[i] with pages := l[i].take m ++ [l[i][m]] } } = devL l pp i (m + 1) := by
    rw [eZ]; unfold devL; simp only [half_page hlt hlt2]
  rw [e] at r6
  exact ⟨⟨m + 1, t5, _, rfl, hlt2, takes_succ hlt2 hall3 hp33, r6, f4.trans f6⟩, (by first | omega | (dsimp only; omega) | (simp only []; omega))⟩
/- THE REFERENCE'S. -/
theorem loadR_ok {k : Nat} (hk : k ≠ 0) {t : Tags} {h0 h : Heap} (bs : Bs h0 t h) (hf : ∀ g, g < h.size → (t g).1 ≠ k) (P : Int) (a : Option Addr) (c : Nat) (l : List (List (List Int))) (sl : SlAt h0 (.slice (.slice (.int .u8))) a l) (hl : l.length ≤ 30) (hs : ∀ z ∈ l, z.length ≤ 30 ∧ ∀ p ∈ z, p.length ≤ 100) :
    CallsH Tryz.prog 29 [.int .i64 P, .slice a l.length c] h (LoadP LoR (.int .i64 0) (.int .i64 1) k t h l P) := by
  refine fun_ok hm' Tryz.func29 (by kernel_rfl) (F29_eq _ _ _ _ _ h) ?_
  unfold F29
  by_cases hn : ¬ ((1 ≤ (l.length : Int) ∧ (l.length : Int) ≤ 24) ∧ 1 ≤ P ∧ P ≤ 16)
  · refine call_of (ZnsR.new_no (l.length : Int) P h hn) ?_
    rintro v h' ⟨rfl, hh⟩; subst h'
    exact ⟨(none, (1 : Int)), rfl, br_t rfl (.inl ⟨rfl, fun g => hn g.1, New.refl h⟩)⟩
  have hn := Classical.not_not.1 hn
  obtain ⟨pp, rfl⟩ := Int.eq_ofNat_of_zero_le (show 0 ≤ P by omega)
  refine call_of (ZnsR.new_ok k hk t l.length pp h (by omega) (by omega)) ?_
  rintro v h1 ⟨b, rfl, n1, hb, t1, ht1, r1⟩
  have hD0 : Dev.empty l.length pp = devL l pp 0 0 := by unfold Dev.empty devL; rw [half_zero]
  rw [hD0] at r1
  obtain ⟨za, d, arr, r1⟩ := r1
  have nw : ∀ {t' : Tags} {h' : Heap}, Fr (fun q => q.1 ≠ k) t1 h1 t' h' → New h h' := fun f => f.new n1 fun g hg => by rw [ht1 g hg]; exact hf g hg
  have bs1 := bs.tags n1 ht1
  refine ⟨(some ⟨b, 0, none⟩, (0 : Int)), rfl, br_f rfl ?_⟩
  refine ⟨fun (s : Int) h' => ∃ (i : Nat) (t' : Tags) (arr' : Array Value), s = i ∧ i ≤ l.length ∧ (∀ z ∈ l.take i, okZ pp z) ∧ DR LoR k t' h' b za d arr' (devL l pp i 0) ∧ Fr (fun q => q.1 ≠ k) t1 h1 t' h', fun (s : Int) _ => ((l.length : Int) - s).toNat, ⟨0, t1, arr, rfl, Nat.zero_le _, by simp, r1, Fr.refl _ _ _⟩, ?_⟩
  rintro s j h2 ⟨i, t2, arr2, rfl, hi, hall, r2, f2⟩
  refine br_of (fun hlt => ?_) (fun hlt => ?_)
  rotate_left
  · have hie : i = l.length := by have := of_decide_eq_false hlt; omega
    subst hie
    rw [List.take_length] at hall
    refine .inr ⟨b, rfl, ⟨hn, hall⟩, nw f2, ?_⟩
    have : devL l pp l.length 0 = loaded l pp := by unfold devL loaded; rw [half_all]
    rw [this] at r2
    exact ⟨t2, fun g hg => by rw [f2.tags g (Nat.lt_of_lt_of_le hg n1.size), ht1 g hg], za, d, arr2, r2⟩
  have hlt : i < l.length := by have := of_decide_eq_true hlt; omega
  have bs2 := bs1.own hk f2
  obtain ⟨a1, c1, sl1, ld1⟩ := zone_ld sl hlt
  refine ld1 bs2.new hlt (br_of (fun hg => .inl ⟨rfl, fun g => ?_, nw f2⟩) fun hg => ?_)
  · have := (g.2 _ (List.getElem_mem hlt)).1; have hg : (l[i].length : Int) > pp := of_decide_eq_true hg; omega
  have hg : ¬ (l[i].length : Int) > pp := of_decide_eq_false hg
  have hg : (l[i].length : Int) ≤ pp := by omega
  have hsz := hs _ (List.getElem_mem hlt)
  refine ⟨fun (s : Int) h' => ∃ (m : Nat) (t' : Tags) (arr' : Array Value), s = m ∧ m ≤ l[i].length ∧ (∀ p ∈ l[i].take m, p.length = 0 ∨ p.length = 33) ∧ DR LoR k t' h' b za d arr' (devL l pp i m) ∧ Fr (fun q => q.1 ≠ k) t1 h1 t' h', fun (s : Int) _ => ((l[i].length : Int) - s).toNat, ⟨0, t2, arr2, rfl, Nat.zero_le _, by simp, r2, f2⟩, ?_⟩
  rintro s j2 h3 ⟨m, t3, arr3, rfl, hm, hall3, r3, f3⟩
  have bs3 := bs1.own hk f3
  have hz3 : i < (devL l pp i m).zs.length := by show i < (half l i m).length; rw [half_len]; exact hlt
  have eZ : (devL l pp i m).zs[i] = ⟨l[i].take m, 0, false⟩ := by
    have := half_at (m := m) hlt
    rw [List.getElem?_eq_getElem (by rw [half_len]; exact hlt)] at this
    exact Option.some.inj this
  have hsz3 := r3.size; have hle3 := r3.le
  refine ld1 bs3.new hlt (br_of (fun hlt2 => ?_) (fun hlt2 => ?_))
  rotate_left
  · have hlt2 : ¬ (m : Int) < (l[i].length : Int) := of_decide_eq_false hlt2
    have hme : m = l[i].length := by omega
    subst hme
    refine ptr_of (ld_of (c := .slice) (some ⟨za, 0, none⟩, (devL l pp i l[i].length).zs.length, d) r3.cz (ld1 bs3.new hlt (ptr_of (ix_of hz3 ?_))))
    rw [add_mk, add_mk, Int.toNat_natCast, Nat.zero_add]
    refine st_blk r3.zblk (by omega) fun h4 b4 o4 => ?_
    have r4 := ZnsR.RD.setSure r3 hz3 l[i].length b4 o4
    rw [wr64 (by omega) (by omega)]
    have e : { devL l pp i l[i].length with zs := (devL l pp i l[i].length).zs.set i { (devL l pp i l[i].length).zs[i] with sure := l[i].length } } = devL l pp (i + 1) 0 := by
      rw [eZ]; unfold devL; simp only [half_zone hlt]
    rw [e] at r4
    exact ⟨⟨i + 1, t3, _, rfl, hlt, takes_succ hlt hall ⟨hg, by rw [List.take_length] at hall3; exact hall3⟩, r4, f3.trans (Fr.upd o4.upd fun hn => hn (by rw [r3.tagZ]))⟩, (by first | omega | (dsimp only; omega) | (simp only []; omega))⟩
  have hlt2 : (m : Int) < (l[i].length : Int) := of_decide_eq_true hlt2
  have hlt2 : m < l[i].length := by omega
  obtain ⟨a2, c2, ar2, _, ld2⟩ := page_ld sl1 hlt2
  refine (cut_q (ts := []) (fun _ h' => h' = h3 ∧ (l[i][m].length = 0 ∨ l[i][m].length = 33)) ?_ ?_)
  rotate_left
  · intro K hK
    refine ld1 bs3.new hlt (ld2 bs3.new hlt2 (br_of (fun h0 => ld1 bs3.new hlt (ld2 bs3.new hlt2 (br_of (fun h33 => .inl ⟨rfl, fun g => ?_, nw f3⟩) fun h33 => hK () _ ⟨rfl, .inr ?_⟩))) fun h0 => hK () _ ⟨rfl, .inl ?_⟩))
    · have := (g.2 _ (List.getElem_mem hlt)).2 _ (List.getElem_mem hlt2)
      simp only [bne_iff_ne, ne_eq] at h0 h33
      omega
    · have : ((l[i][m].length : Nat) : Int) = 33 := by simpa using h33
      omega
    · have : ((l[i][m].length : Nat) : Int) = 0 := by simpa using h0
      omega
  rintro _ h' ⟨hh, hp33⟩ _; subst h'
  obtain ⟨a3, d3, hp, e0, _, _, _, _, _⟩ := ZnsR.RD.at0 r3 hz3
  rw [eZ] at hp e0
  have hpl : (l[i].take m).length = m := by rw [List.length_take]; omega
  have im3 : Im .u8 t3 h3 a2 l[i][m] := bs3.im ar2
  have hl100 := hsz.2 _ (List.getElem_mem hlt2)
  refine ptr_of (ld_of (c := .slice) (some ⟨za, 0, none⟩, (devL l pp i m).zs.length, d) r3.cz (ptr_of (ld_of (c := .slice) (some ⟨za, 0, none⟩, (devL l pp i m).zs.length, d) r3.cz (ptr_of (ix_of hz3 ?_)))))
  refine ld_of (c := .slice) (a3, (l[i].take m).length, d3) e0 (ld1 bs3.new hlt (ld2 bs3.new hlt2 (new_of fun h4 b4 n4 s4 => ?_)))
  refine bytes_copy rfl (im3.new n4) (by omega) fun a5 c5 h5 im5 n5 cp5 => ?_
  have n35 := n4.trans n5
  have r5 : DR LoR k (lay t3 h4.size (0, 0)) h5 b za d arr3 (devL l pp i m) := (r3.new n4).fr (S := fun _ => True) (Fr.lay n5 _) (fun _ _ => trivial) fun _ => trivial
  have hp5 : PRow k i (lay t3 h4.size (0, 0)) h5 a3 d3 (l[i].take m) := (hp.fr (S := fun _ => True) (Fr.new0 n4) (fun _ _ => trivial) trivial).fr (S := fun _ => True) (Fr.lay n5 _) (fun _ _ => trivial) trivial
  have f5 : Fr (fun q => q.1 ≠ k) t1 h1 (lay t3 h4.size (0, 0)) h5 := (f3.trans (Fr.new0 n4)).trans (Fr.lay n5 _)
  have ez5 : cellH h5 (((⟨za, 0, none⟩ : Addr).add (Int.toNat (i : Int) * 3)).add 0) = some (.slice a3 (l[i].take m).length d3) := by
    rw [add_mk, add_mk] at e0 ⊢
    rw [cellH_same (n35.same za r3.zblk.lt)]; exact e0
  generalize lay t3 h4.size (0, 0) = t5 at r5 hp5 im5 f5
  refine ⟨ez5, r5.cz, r5.cz, PRow.push hp5 hk im5 cp5 (by omega) fun a6 c6 h6 t6 f6 hp6 => ?_⟩
  have bD := f6.blk r5.blk (by rw [r5.tagB]; exact tagne (by omega))
  have bZ := f6.blk r5.zblk (by rw [r5.tagZ]; exact tagne (by omega))
  have cz6 : cellH h6 ((⟨b, 0, none⟩ : Addr).add 0) = some (.slice (some ⟨za, 0, none⟩) (devL l pp i m).zs.length d) := by rw [add_mk, cellH_blk bD]; rfl
  refine ⟨cz6, cz6, ptr_of (ix_of hz3 ?_)⟩
  rw [add_mk, add_mk, Int.toNat_natCast, Nat.zero_add, Nat.add_zero]
  have hlen : (l[i].take m ++ [l[i][m]]).length = (l[i].take m).length + 1 := by rw [List.length_append]; rfl
  refine st_blk bZ (by omega) fun h7 b7 o7 => ?_
  rw [← hlen] at b7
  obtain ⟨r7, f7⟩ := ZnsR.RD.pages r5 hz3 f6 hp6 b7 o7
  rw [wr64 (by omega) (by omega)]
  have e : { devL l pp i m with zs := (devL l pp i m).zs.set i { (devL l pp i m).zs[i] with pages := l[i].take m ++ [l[i][m]] } } = devL l pp i (m + 1) := by
    rw [eZ]; unfold devL; simp only [half_page hlt hlt2]
  rw [e] at r7
  exact ⟨⟨m + 1, t6, _, rfl, hlt2, takes_succ hlt2 hall3 hp33, r7, f5.trans f7⟩, (by first | omega | (dsimp only; omega) | (simp only []; omega))⟩
end Go.Proofs.YthimfpkkdhpceaaGreatDoor.ZnsL
/-
  The formulas of a law of slot with the reference. Each formula checked by the kernel. Printed by a program of this repo.
-/
namespace Go.Proofs.YthimfpkkdhpceaaGreatDoor.W
open Go.Pl

-- function 5
set_option maxRecDepth 100000 in
def F5 (pages_0 : Int) (l_1 : Option Addr) (l_1l l_1c : Nat) (K : Value → Heap → Prop) (h0 : Heap) : Prop := (
  callT Tryz.prog 6 [] [.sc .bool] (fun (r1 : Bool) h2 =>
  br (!r1)
  (K (.bool false) h2)
  (br (decide ((((l_1l : Nat) : Int)) > (30 : Int)))
  (K (.bool true) h2)
  (loopT [.sc (.int .i64)] (fun (s4 : Int) _ (K3 : Int → Heap → Prop) h5 =>
  br (decide (s4 < (((l_1l : Nat) : Int))))
  (ptrW l_1 (fun a6 =>
  idxW s4 l_1l true (ldW .slice (Addr.add a6 (Int.toNat s4 * 1)) (fun (x7 : Option Addr × Nat × Nat) =>
  br (decide ((((x7.2.1 : Nat) : Int)) > (30 : Int)))
  (K (.bool true) h5)
  (loopT [.sc (.int .i64)] (fun (s9 : Int) _ (K8 : Int → Heap → Prop) h10 =>
  br (decide (s9 < (((x7.2.1 : Nat) : Int))))
  (ptrW x7.1 (fun a11 =>
  idxW s9 x7.2.1 true (ldW .slice (Addr.add a11 (Int.toNat s9 * 1)) (fun (x12 : Option Addr × Nat × Nat) =>
  br (decide ((((x12.2.1 : Nat) : Int)) > (100 : Int)))
  (K (.bool true) h10)
  (K8 (IntKind.wrap .i64 (s9 + (1 : Int))) h10)) h10)))
  (K3 (IntKind.wrap .i64 (s4 + (1 : Int))) h10)) (0 : Int) h5)) h5)))
  (callT Tryz.prog 28 [.int .i64 pages_0, .slice l_1 l_1l l_1c] [.sc .ptr, .sc .any] (fun (r13 : (Option Addr) × Value) h14 =>
  callT Tryz.prog 29 [.int .i64 pages_0, .slice l_1 l_1l l_1c] [.sc .ptr, .sc (.int .i64)] (fun (r15 : (Option Addr) × Int) h16 =>
  cutT [] (fun (K17 : Unit → Heap → Prop) h22 =>
  cutT [.sc .bool] (fun (K18 : Bool → Heap → Prop) h19 =>
  br (Option.isNone r13.1)
  (K18 true h19)
  (K18 (Option.isNone r15.1) h19)) (fun (s20 : Bool) _ h21 =>
  br s20
  (K (.bool ((Option.isNone r13.1) == (Option.isNone r15.1))) h21)
  (K17 () h21)) h22) (fun (_s23 : Unit) _ h24 =>
  loopT [.sc (.int .i64)] (fun (s26 : Int) _ (K25 : Int → Heap → Prop) h27 =>
  br (decide (s26 < (((l_1l : Nat) : Int))))
  (callT Tryz.prog 17 [.pointer r13.1, .int .i64 s26] [.agg [.int .u32, .int .u32, .int .u32, .int .i64, .int .i64, .int .i64, .slice], .sc .any] (fun (r28 : (Int × Int × Int × Int × Int × Int × (Option Addr × Nat × Nat)) × Value) h29 =>
  newW (.cells (zeroC Tryz.prog 40) 40) (fun a30 h31 =>
  stLW a30 [.int .u32 r28.1.1, .int .u32 r28.1.2.1, .int .u32 r28.1.2.2.1, .int .i64 r28.1.2.2.2.1, .int .i64 r28.1.2.2.2.2.1, .int .i64 r28.1.2.2.2.2.2.1, .slice r28.1.2.2.2.2.2.2.1 r28.1.2.2.2.2.2.2.2.1 r28.1.2.2.2.2.2.2.2.2] (fun h32 =>
  callT Tryz.prog 18 [.pointer r15.1, .int .i64 s26] [.agg [.int .u32, .int .u32, .int .u32, .int .i64, .int .i64, .int .i64, .slice], .sc (.int .i64)] (fun (r33 : (Int × Int × Int × Int × Int × Int × (Option Addr × Nat × Nat)) × Int) h34 =>
  newW (.cells (zeroC Tryz.prog 46) 46) (fun a35 h36 =>
  stLW a35 [.int .u32 r33.1.1, .int .u32 r33.1.2.1, .int .u32 r33.1.2.2.1, .int .i64 r33.1.2.2.2.1, .int .i64 r33.1.2.2.2.2.1, .int .i64 r33.1.2.2.2.2.2.1, .slice r33.1.2.2.2.2.2.2.1 r33.1.2.2.2.2.2.2.2.1 r33.1.2.2.2.2.2.2.2.2] (fun h37 =>
  callT Tryz.prog 12 [r28.2] [.sc (.int .i64)] (fun (r38 : Int) h39 =>
  br (r38 != r33.2)
  (K (.bool false) h39)
  (ldAggW [.int .u32, .int .u32, .int .u32, .int .i64, .int .i64, .int .i64, .slice] a30 (fun (x40 : Int × Int × Int × Int × Int × Int × (Option Addr × Nat × Nat)) =>
  ldAggW [.int .u32, .int .u32, .int .u32, .int .i64, .int .i64, .int .i64, .slice] a35 (fun (x41 : Int × Int × Int × Int × Int × Int × (Option Addr × Nat × Nat)) =>
  callT Tryz.prog 15 [.agg #[.int .u32 x40.1, .int .u32 x40.2.1, .int .u32 x40.2.2.1, .int .i64 x40.2.2.2.1, .int .i64 x40.2.2.2.2.1, .int .i64 x40.2.2.2.2.2.1, .slice x40.2.2.2.2.2.2.1 x40.2.2.2.2.2.2.2.1 x40.2.2.2.2.2.2.2.2]] [.agg [.int .u32, .int .u32, .int .u32, .int .i64, .int .i64, .int .i64, .slice]] (fun (r42 : (Int × Int × Int × Int × Int × Int × (Option Addr × Nat × Nat))) h43 =>
  (cellH h43 (Addr.add a35 0) = some (.int .u32 x41.1) ∧ (cellH h43 (Addr.add a35 1) = some (.int .u32 x41.2.1) ∧ (cellH h43 (Addr.add a35 2) = some (.int .u32 x41.2.2.1) ∧ (cellH h43 (Addr.add a35 3) = some (.int .i64 x41.2.2.2.1) ∧ (cellH h43 (Addr.add a35 4) = some (.int .i64 x41.2.2.2.2.1) ∧ (cellH h43 (Addr.add a35 5) = some (.int .i64 x41.2.2.2.2.2.1) ∧ (cellH h43 (Addr.add a35 6) = some (.slice x41.2.2.2.2.2.2.1 x41.2.2.2.2.2.2.2.1 x41.2.2.2.2.2.2.2.2) ∧ callT Tryz.prog 19 [.agg #[.int .u32 r42.1, .int .u32 r42.2.1, .int .u32 r42.2.2.1, .int .i64 r42.2.2.2.1, .int .i64 r42.2.2.2.2.1, .int .i64 r42.2.2.2.2.2.1, .slice r42.2.2.2.2.2.2.1 r42.2.2.2.2.2.2.2.1 r42.2.2.2.2.2.2.2.2], .agg #[.int .u32 x41.1, .int .u32 x41.2.1, .int .u32 x41.2.2.1, .int .i64 x41.2.2.2.1, .int .i64 x41.2.2.2.2.1, .int .i64 x41.2.2.2.2.2.1, .slice x41.2.2.2.2.2.2.1 x41.2.2.2.2.2.2.2.1 x41.2.2.2.2.2.2.2.2]] [.sc .bool] (fun (r44 : Bool) h45 =>
  br (!r44)
  (K (.bool false) h45)
  (K25 (IntKind.wrap .i64 (s26 + (1 : Int))) h45)) h43)))))))) h39) h39) h39)) h37) h36) h34) h32) h31) h29) h27)
  (callT Tryz.prog 20 [.pointer r13.1] [.agg [.int .u32, .int .u32, .int .u32, .int .i64, .int .i64, .int .i64, .slice], .sc .any] (fun (r46 : (Int × Int × Int × Int × Int × Int × (Option Addr × Nat × Nat)) × Value) h47 =>
  newW (.cells (zeroC Tryz.prog 40) 40) (fun a48 h49 =>
  stLW a48 [.int .u32 r46.1.1, .int .u32 r46.1.2.1, .int .u32 r46.1.2.2.1, .int .i64 r46.1.2.2.2.1, .int .i64 r46.1.2.2.2.2.1, .int .i64 r46.1.2.2.2.2.2.1, .slice r46.1.2.2.2.2.2.2.1 r46.1.2.2.2.2.2.2.2.1 r46.1.2.2.2.2.2.2.2.2] (fun h50 =>
  callT Tryz.prog 21 [.pointer r15.1] [.agg [.int .u32, .int .u32, .int .u32, .int .i64, .int .i64, .int .i64, .slice], .sc (.int .i64)] (fun (r51 : (Int × Int × Int × Int × Int × Int × (Option Addr × Nat × Nat)) × Int) h52 =>
  newW (.cells (zeroC Tryz.prog 46) 46) (fun a53 h54 =>
  stLW a53 [.int .u32 r51.1.1, .int .u32 r51.1.2.1, .int .u32 r51.1.2.2.1, .int .i64 r51.1.2.2.2.1, .int .i64 r51.1.2.2.2.2.1, .int .i64 r51.1.2.2.2.2.2.1, .slice r51.1.2.2.2.2.2.2.1 r51.1.2.2.2.2.2.2.2.1 r51.1.2.2.2.2.2.2.2.2] (fun h55 =>
  callT Tryz.prog 12 [r46.2] [.sc (.int .i64)] (fun (r56 : Int) h57 =>
  br (r56 == r51.2)
  (ldAggW [.int .u32, .int .u32, .int .u32, .int .i64, .int .i64, .int .i64, .slice] a48 (fun (x58 : Int × Int × Int × Int × Int × Int × (Option Addr × Nat × Nat)) =>
  ldAggW [.int .u32, .int .u32, .int .u32, .int .i64, .int .i64, .int .i64, .slice] a53 (fun (x59 : Int × Int × Int × Int × Int × Int × (Option Addr × Nat × Nat)) =>
  callT Tryz.prog 15 [.agg #[.int .u32 x58.1, .int .u32 x58.2.1, .int .u32 x58.2.2.1, .int .i64 x58.2.2.2.1, .int .i64 x58.2.2.2.2.1, .int .i64 x58.2.2.2.2.2.1, .slice x58.2.2.2.2.2.2.1 x58.2.2.2.2.2.2.2.1 x58.2.2.2.2.2.2.2.2]] [.agg [.int .u32, .int .u32, .int .u32, .int .i64, .int .i64, .int .i64, .slice]] (fun (r60 : (Int × Int × Int × Int × Int × Int × (Option Addr × Nat × Nat))) h61 =>
  (cellH h61 (Addr.add a53 0) = some (.int .u32 x59.1) ∧ (cellH h61 (Addr.add a53 1) = some (.int .u32 x59.2.1) ∧ (cellH h61 (Addr.add a53 2) = some (.int .u32 x59.2.2.1) ∧ (cellH h61 (Addr.add a53 3) = some (.int .i64 x59.2.2.2.1) ∧ (cellH h61 (Addr.add a53 4) = some (.int .i64 x59.2.2.2.2.1) ∧ (cellH h61 (Addr.add a53 5) = some (.int .i64 x59.2.2.2.2.2.1) ∧ (cellH h61 (Addr.add a53 6) = some (.slice x59.2.2.2.2.2.2.1 x59.2.2.2.2.2.2.2.1 x59.2.2.2.2.2.2.2.2) ∧ callT Tryz.prog 19 [.agg #[.int .u32 r60.1, .int .u32 r60.2.1, .int .u32 r60.2.2.1, .int .i64 r60.2.2.2.1, .int .i64 r60.2.2.2.2.1, .int .i64 r60.2.2.2.2.2.1, .slice r60.2.2.2.2.2.2.1 r60.2.2.2.2.2.2.2.1 r60.2.2.2.2.2.2.2.2], .agg #[.int .u32 x59.1, .int .u32 x59.2.1, .int .u32 x59.2.2.1, .int .i64 x59.2.2.2.1, .int .i64 x59.2.2.2.2.1, .int .i64 x59.2.2.2.2.2.1, .slice x59.2.2.2.2.2.2.1 x59.2.2.2.2.2.2.2.1 x59.2.2.2.2.2.2.2.2]] [.sc .bool] (fun (r62 : Bool) h63 =>
  br r62
  (callT Tryz.prog 30 [.pointer r13.1] [.sc (.int .i64)] (fun (r64 : Int) h65 =>
  br (r64 == (0 : Int))
  (callT Tryz.prog 16 [.pointer r13.1, .pointer r15.1] [.sc .bool] (fun (r66 : Bool) h67 =>
  K (.bool r66) h67) h65)
  (K (.bool false) h65)) h63)
  (K (.bool false) h63)) h61)))))))) h57) h57) h57)
  (K (.bool false) h57)) h55) h54) h52) h50) h49) h47) h27)) (0 : Int) h24) h16) h14) h5)) (0 : Int) h2))) h0)
set_option maxRecDepth 100000 in
theorem F5_eq (pages_0 : Int) (l_1 : Option Addr) (l_1l l_1c : Nat) (K : Value → Heap → Prop) (h0 : Heap) : funWE Tryz.prog 5 (.seq (.leaf) (.seq (.seq (.leaf) (.cond (.seq (.leaf) (.leaf)) (.leaf))) (.seq (.seq (.leaf) (.cond (.seq (.leaf) (.leaf)) (.leaf))) (.seq (.seq (.leaf) (.block (.loop [(29, .sc (.int .i64))] (.seq (.leaf) (.seq (.cond (.leaf) (.leaf)) (.seq (.block (.seq (.leaf) (.seq (.seq (.leaf) (.cond (.seq (.leaf) (.leaf)) (.leaf))) (.seq (.leaf) (.block (.loop [(38, .sc (.int .i64))] (.seq (.leaf) (.seq (.cond (.leaf) (.leaf)) (.seq (.block (.seq (.leaf) (.seq (.leaf) (.cond (.seq (.leaf) (.leaf)) (.leaf))))) (.leaf)))))))))) (.leaf))))))) (.seq (.leaf) (.seq (.leaf) (.cut [] (.cut [(64, .sc .bool)] (.leaf) (.cond (.seq (.leaf) (.leaf)) (.leaf))) (.seq (.seq (.leaf) (.block (.loop [(72, .sc (.int .i64))] (.seq (.leaf) (.seq (.cond (.leaf) (.leaf)) (.seq (.block (.seq (.leaf) (.seq (.leaf) (.seq (.leaf) (.seq (.draw (odp [0, 2, 1, 3, 4, 5, 7, 6, 8, 9, 10] .nil) [200007]) (.cond (.seq (.leaf) (.leaf)) (.leaf))))))) (.leaf))))))) (.seq (.leaf) (.seq (.leaf) (.seq (.draw (odp [0, 2, 1, 3, 4, 5, 7, 6, 8, 9, 10, 11, 12, 13, 14, 15, 16, 17, 18, 19, 20] .nil) [200007]) (.leaf)))))))))))) [.int .i64 pages_0, .slice l_1 l_1l l_1c] K h0 = F5 pages_0 l_1 l_1l l_1c K h0 := by kernel_rfl

end Go.Proofs.YthimfpkkdhpceaaGreatDoor.W
/-
  SlotReads.
-/
namespace Go.Proofs.YthimfpkkdhpceaaGreatDoor.Slt
open Go.Pl Go.Proofs.YthimfpkkdhpceaaGreatDoor.W Go.Proofs.YthimfpkkdhpceaaGreatDoor.Byts Go.Proofs.YthimfpkkdhpceaaGreatDoor.Four Go.Proofs.YthimfpkkdhpceaaGreatDoor.Adl Go.Proofs.YthimfpkkdhpceaaGreatDoor.As Go.Proofs.YthimfpkkdhpceaaGreatDoor.Err Go.Proofs.YthimfpkkdhpceaaGreatDoor.Head Go.Proofs.YthimfpkkdhpceaaGreatDoor.HdP Go.Proofs.YthimfpkkdhpceaaGreatDoor.Geo Go.Proofs.YthimfpkkdhpceaaGreatDoor.Zns Go.Proofs.YthimfpkkdhpceaaGreatDoor.ZnsP Go.Proofs.YthimfpkkdhpceaaGreatDoor.Ck Go.Proofs.YthimfpkkdhpceaaGreatDoor.Rng Go.Proofs.YthimfpkkdhpceaaGreatDoor.ZnsL Go.Proofs.YthimfpkkdhpceaaGreatDoor.L7A
/-- Owner 2 owns nothing yet. -/
def free2 (t : Tags) : Tags := fun g => if (t g).1 = 2 then (0, 0) else t g
theorem free2_ne (t : Tags) (g : Nat) : (free2 t g).1 ≠ 2 := by
  unfold free2; split
  · decide
  · assumption
theorem free2_eq (t : Tags) (g : Nat) (h : (t g).1 = 0 ∨ (t g).1 = 1) : free2 t g = t g := if_neg (by omega)
theorem reads_law (h : Heap) (v0 v1 : Value) (pc : Int) (ps : List (List (List Int))) (r0 : ReadsV h (.int .i64) v0 pc) (r1 : ReadsV h (.slice (.slice (.slice (.int .u8)))) v1 ps) (hg : Laid h) :
    CallsH Tryz.prog 5 [v0, v1] h fun v h' => v = .bool true ∧ New h h' := by
  obtain ⟨cs0, e0, rfl, _⟩ := r0
  obtain rfl := (List.cons.inj e0).1
  obtain ⟨ap, cp, rfl, _, _, _, slp⟩ : ∃ a c, v1 = .slice a ps.length c ∧ ps.length ≤ c ∧ c ≤ maxLen ∧ (a = none → ps.length = 0 ∧ c = 0) ∧ SlAt h (.slice (.slice (.int .u8))) a ps := SlAt.reads (e := .slice (.slice (.int .u8))) r1
  refine fun_ok Geo.hm' Tryz.func5 (by kernel_rfl) (F5_eq pc ap ps.length cp _ h) ?_
  unfold F5
  refine call_of (awake_ok h hg) ?_
  rintro v g2 ⟨rfl, m2⟩
  refine ⟨true, rfl, br_f rfl (br_of (fun _ => ⟨rfl, m2⟩) fun h30 => ?_)⟩
  have h30 : ps.length ≤ 30 := by have := of_decide_eq_false h30; omega
  refine ⟨fun (s : Int) h' => ∃ i : Nat, s = i ∧ i ≤ ps.length ∧ h' = g2 ∧ ∀ z ∈ ps.take i, z.length ≤ 30 ∧ ∀ p ∈ z, p.length ≤ 100, fun (s : Int) _ => ((ps.length : Int) - s).toNat, ⟨0, rfl, Nat.zero_le _, rfl, by simp⟩, ?_⟩
  rintro s j g3 ⟨i, rfl, hi, hh, hall⟩; subst g3
  refine br_of (fun hlt => ?_) (fun hlt => ?_)
  · have hlt : i < ps.length := by have := of_decide_eq_true hlt; omega
    obtain ⟨a1, c1, sl1, ld1⟩ := zone_ld slp hlt
    refine ld1 m2 hlt (br_of (fun _ => ⟨rfl, m2⟩) fun hz => ?_)
    have hz : ¬ (ps[i].length : Int) > 30 := of_decide_eq_false hz
    refine ⟨fun (s : Int) h' => ∃ k : Nat, s = k ∧ k ≤ ps[i].length ∧ h' = g2 ∧ ∀ p ∈ ps[i].take k, p.length ≤ 100, fun (s : Int) _ => ((ps[i].length : Int) - s).toNat, ⟨0, rfl, Nat.zero_le _, rfl, by simp⟩, ?_⟩
    rintro s j2 g3 ⟨k, rfl, hk, hh, hall2⟩; subst g3
    refine br_of (fun hlt2 => ?_) (fun hlt2 => ?_)
    · have hlt2 : (k : Int) < (ps[i].length : Int) := of_decide_eq_true hlt2
      have hlt2 : k < ps[i].length := by omega
      obtain ⟨a2, c2, _, _, ld2⟩ := page_ld sl1 hlt2
      refine ld2 m2 hlt2 (br_of (fun _ => ⟨rfl, m2⟩) fun hp => ?_)
      have hp : ¬ (ps[i][k].length : Int) > 100 := of_decide_eq_false hp
      rw [wr64 (by omega) (by omega)]
      exact ⟨⟨k + 1, rfl, hlt2, rfl, takes_succ hlt2 hall2 (by omega)⟩, (by first | omega | (dsimp only; omega) | (simp only []; omega))⟩
    · have hlt2 : ¬ (k : Int) < (ps[i].length : Int) := of_decide_eq_false hlt2
      have hke : k = ps[i].length := by omega
      subst hke
      rw [List.take_length] at hall2
      rw [wr64 (by omega) (by omega)]
      exact ⟨⟨i + 1, rfl, hlt, rfl, takes_succ hlt hall ⟨by omega, hall2⟩⟩, (by first | omega | (dsimp only; omega) | (simp only []; omega))⟩
  have hie : i = ps.length := by have := of_decide_eq_false hlt; omega
  subst hie
  rw [List.take_length] at hall
  clear hlt hi
  have bs2 : Bs h (fun _ => (0, 0)) g2 := (Bs.start hg).newer m2
  refine call_of (load_ok (k := 1) (by decide) bs2 (fun _ _ => (by decide : (0 : Nat) ≠ 1)) pc ap cp ps slp h30 hall) ?_
  rintro v g3 (⟨rfl, bad, m3⟩ | ⟨b, rfl, good, m3, t3, ht3, rp3⟩)
  · have bs3 := bs2.newer m3
    refine ⟨((none : Option Addr), errV 1), rfl, call_of (loadR_ok (k := 2) (by decide) bs3 (fun _ _ => (by decide : (0 : Nat) ≠ 2)) pc ap cp ps slp h30 hall) ?_⟩
    rintro v g4 (⟨rfl, _, m4⟩ | ⟨_, _, good, _⟩)
    · have bs4 := bs3.newer m4
      refine ⟨((none : Option Addr), (1 : Int)), rfl, cut_q (ts := []) (fun _ _ => False) (fun _ _ hf => hf.elim) ?_⟩
      intro K _
      refine cut_q (ts := [.sc .bool]) (fun s h' => s = true ∧ h' = g4) ?_ ?_
      rotate_left
      · intro K2 hK2
        exact br_t rfl (hK2 _ _ ⟨rfl, rfl⟩)
      rintro s h' ⟨rfl, hh⟩ _; subst h'
      exact br_t rfl ⟨rfl, bs4.new⟩
    · exact (bad good).elim
  refine ⟨(some ⟨b, 0, none⟩, errV 0), rfl, ?_⟩
  have bs3 : Bs h t3 g3 := bs2.tags m3 ht3
  have bs3' : Bs h (free2 t3) g3 := ⟨bs3.new, fun b hb => by rw [free2_eq t3 b (.inl (bs3.tag b hb))]; exact bs3.tag b hb, bs3.laid⟩
  have rp3' : ZnsP.PRep 1 (free2 t3) g3 b (loaded ps pc.toNat) := DRep.retag rp3 (free2_eq t3)
  have fr3 := free2_ne t3
  generalize free2 t3 = t4 at bs3' rp3' fr3
  refine call_of (loadR_ok (k := 2) (by decide) bs3' (fun g _ => fr3 g) pc ap cp ps slp h30 hall) ?_
  rintro v h4 (⟨_, bad, _⟩ | ⟨bq, rfl, _, n4, t5, ht5, q5⟩)
  · exact (bad good).elim
  have f34 : Fr (fun _ => True) t4 g3 t5 h4 := ⟨n4.size, ht5, fun g hg _ => n4.same g hg⟩
  have r4 : ZnsP.PRep 1 t5 h4 b (loaded ps pc.toNat) := rp3'.fr f34 (fun _ _ => trivial) fun _ => trivial
  have q4 : RRep 2 t5 h4 bq (loaded ps pc.toNat) := q5
  have n04 : New h h4 := bs3.new.trans n4
  have oD : DevOk (loaded ps pc.toNat) := by
    obtain ⟨⟨g1, g2'⟩, g3'⟩ := good
    refine loaded_ok (P := pc.toNat) ⟨⟨g1, by omega⟩, fun z hz => ?_⟩ (byts_in slp)
    have := g3' z hz
    unfold okZ at this ⊢
    exact ⟨by omega, this.2⟩
  have hzl : (loaded ps pc.toNat).zs.length = ps.length := by simp [loaded]
  have hops : (loaded ps pc.toNat).ops = 0 := rfl
  generalize loaded ps pc.toNat = D at *
  refine ⟨(some ⟨bq, 0, none⟩, (0 : Int)), rfl, cut_q (ts := []) (fun _ h' => h' = h4) ?_ ?_⟩
  rotate_left
  · intro K hK
    refine cut_q (ts := [.sc .bool]) (fun s h' => s = false ∧ h' = h4) ?_ ?_
    rotate_left
    · intro K2 hK2
      exact br_f rfl (hK2 _ _ ⟨rfl, rfl⟩)
    rintro s h' ⟨rfl, hh⟩ _; subst h'
    exact br_f rfl (hK () _ rfl)
  rintro _ h' hh _; subst h'
  have q4' : ∀ hx, New h4 hx → RRep 2 t5 hx bq D := fun hx nx => q4.new nx
  refine ⟨fun (s : Int) h' => New h4 h' ∧ ∃ i : Nat, s = i ∧ i ≤ ps.length, fun (s : Int) _ => ((ps.length : Int) - s).toNat, ⟨New.refl _, 0, rfl, Nat.zero_le _⟩, ?_⟩
  rintro s j2 h10 ⟨n10, i, rfl, hi⟩
  have n010 := n04.trans n10
  refine br_of (fun hlt2 => ?_) (fun hlt2 => ?_)
  · have hlt2 : (i : Int) < (ps.length : Int) := of_decide_eq_true hlt2
    have ezs : IntKind.wrap .i64 ((i : Int) + 1) = ((i + 1 : Nat) : Int) := (by first | (rw [wr64 (by omega) (by omega)]; omega) | (simp only [IntKind.wrap_i64]; omega))
    have hdd := (readS_ok oD (i : Int)).2
    have rp := sread_ok oD (i : Int) h10 (r4.new n10)
    have rq := fun h r => rsread_ok (t := t5) (k := 2) (b := bq) oD (i : Int) h r
    unfold ReadSP at rp
    unfold RReadSP at rq
    generalize readS D (i : Int) = A at *
    refine call_of rp ?_
    rintro v h11 ⟨d11, c11, e11, l11, rfl, er11, o11, n11⟩
    refine ⟨(chkC A.1 d11 c11, e11), rfl, new_stL (by rw [zeroK]; rfl) fun h12 b12 n12 s12 => ?_⟩
    have b12 : Blk h12 h11.size (chkA A.1 d11 c11) 40 := b12
    have n1012 := n11.trans n12
    refine call_of (rq h12 (q4' h12 (n10.trans n1012))) ?_
    rintro v h13 ⟨d13, c13, rfl, o13, n13⟩
    refine ⟨(chkC A.1 d13 c13, A.2), rfl, new_stL (by rw [zeroR6]; rfl) fun h14 b14 n14 s14 => ?_⟩
    have b14 : Blk h14 h13.size (chkA A.1 d13 c13) 46 := b14
    have n1214 := n13.trans n14
    have n014 := (n010.trans n1012).trans n1214
    refine call_of (Err.code_ok e11 l11 A.2 h14 (hg.new n014) ((er11.new n12).new n1214).c) ?_
    rintro v h15 ⟨rfl, n15⟩
    refine ⟨A.2, rfl, br_f (by simp) (ldChk ((b12.new n1214).new n15) (ldChk (b14.new n15) (call_of (sown_ok A.1 d11 c11 h15) ?_)))⟩
    rintro v h16 ⟨rfl, n16⟩
    have n1416 := n15.trans n16
    refine ⟨chkC A.1 d11 c11, rfl, asks7 (b14.new n1416) (call_of (rsame_ok A.1 A.1 d11 d13 c11 c13 h16 (Ar.own (((o11.grow n12).grow n1214).grow n1416)) (Ar.own ((o13.grow n14).grow n1416)) (by omega)) ?_)⟩
    rintro v h17 ⟨rfl, n17⟩
    refine ⟨sameC A.1 A.1, rfl, br_f (by rw [(sameC_iff _ _).2 rfl]; rfl) ?_⟩
    rw [ezs]
    exact ⟨⟨(((n10.trans n1012).trans n1214).trans n1416).trans n17, i + 1, rfl, by omega⟩, (by first | omega | (dsimp only; omega) | (simp only []; omega))⟩
  have hdd := newest_dir oD
  have rp := newest_ok oD h10 (r4.new n10)
  have rq := fun h r => rnewest_ok (t := t5) (k := 2) (b := bq) oD h r
  unfold NewestP at rp
  unfold RNewestP at rq
  generalize newestS D = A at *
  refine call_of rp ?_
  rintro v h11 ⟨d11, c11, e11, l11, rfl, er11, o11, n11⟩
  refine ⟨(chkC A.1 d11 c11, e11), rfl, new_stL (by rw [zeroK]; rfl) fun h12 b12 n12 s12 => ?_⟩
  have b12 : Blk h12 h11.size (chkA A.1 d11 c11) 40 := b12
  have n1012 := n11.trans n12
  refine call_of (rq h12 (q4' h12 (n10.trans n1012))) ?_
  rintro v h13 ⟨d13, c13, rfl, o13, n13⟩
  refine ⟨(chkC A.1 d13 c13, A.2), rfl, new_stL (by rw [zeroR6]; rfl) fun h14 b14 n14 s14 => ?_⟩
  have b14 : Blk h14 h13.size (chkA A.1 d13 c13) 46 := b14
  have n1214 := n13.trans n14
  have n014 := (n010.trans n1012).trans n1214
  refine call_of (Err.code_ok e11 l11 A.2 h14 (hg.new n014) ((er11.new n12).new n1214).c) ?_
  rintro v h15 ⟨rfl, n15⟩
  refine ⟨A.2, rfl, br_t (by simp) (ldChk ((b12.new n1214).new n15) (ldChk (b14.new n15) (call_of (sown_ok A.1 d11 c11 h15) ?_)))⟩
  rintro v h16 ⟨rfl, n16⟩
  have n1416 := n15.trans n16
  refine ⟨chkC A.1 d11 c11, rfl, asks7 (b14.new n1416) (call_of (rsame_ok A.1 A.1 d11 d13 c11 c13 h16 (Ar.own (((o11.grow n12).grow n1214).grow n1416)) (Ar.own ((o13.grow n14).grow n1416)) (by omega)) ?_)⟩
  rintro v h17 ⟨rfl, n17⟩
  have n417 := (((n10.trans n1012).trans n1214).trans n1416).trans n17
  refine ⟨sameC A.1 A.1, rfl, br_t ((sameC_iff _ _).2 rfl) (call_of (ops_ok h17 (r4.new n417)) ?_)⟩
  rintro v h' ⟨rfl, hh⟩; subst h'
  refine ⟨D.ops, rfl, br_t (by rw [hops]; rfl) (call_of (alike_ok oD h17 (hg.new (n04.trans n417)) (r4.new n417) (q4' _ n417)) ?_)⟩
  rintro v h18 ⟨rfl, n18⟩
  exact ⟨true, rfl, rfl, (n04.trans n417).trans n18⟩
end Go.Proofs.YthimfpkkdhpceaaGreatDoor.Slt
