/-
  The contracts of the reference of zns.
-/
import Derived.Test.YtgohecjnjadnpaaGreatDoorWR7
import Derived.Test.YtgohecjnjadnpaaGreatDoorZnsP
namespace Go.Proofs.YtgohecjnjadnpaaGreatDoor.ZnsR
open Go.Pl Go.Proofs.YtgohecjnjadnpaaGreatDoor.W Go.Proofs.YtgohecjnjadnpaaGreatDoor.Byts Go.Proofs.YtgohecjnjadnpaaGreatDoor.As Go.Proofs.YtgohecjnjadnpaaGreatDoor.Upto Go.Proofs.YtgohecjnjadnpaaGreatDoor.Zns
abbrev RD := DR LoR
abbrev RRep := DRep LoR
abbrev ptr (b : Nat) : Value := .pointer (some ⟨b, 0, none⟩)
def Acted (k : Nat) (t : Tags) (h : Heap) (b : Nat) (D' : Dev) (h' : Heap) : Prop := ∃ t', RRep k t' h' b D' ∧ Fr (fun p => p.1 ≠ k) t h t' h'
theorem is_ok {k b : Nat} {t : Tags} {D : Dev} (n : Int) (h : Heap) (r : RRep k t h b D) : CallsH Tryz.prog 57 [ptr b, .int .i64 n] h fun v h' => v = .bool (D.there n) ∧ h' = h := by
  refine fun_ok hm' Tryz.func57 (by kernel_rfl) (F57_eq _ _ _ h) ?_
  unfold F57
  obtain ⟨za, c, arr, r⟩ := r
  refine br_of (fun h0 => ld_of (c := .slice) (some ⟨za, 0, none⟩, D.zs.length, c) r.cz ⟨?_, rfl⟩) fun h0 => ⟨?_, rfl⟩
  · have h0 := of_decide_eq_true h0
    unfold Dev.there; congr 1; simp; omega
  · have h0 := of_decide_eq_false h0
    unfold Dev.there; congr 1; symm; simp; omega
/-- The cells of a zone that is there. -/
theorem RD.at0 {k b za c z : Nat} {t : Tags} {h : Heap} {arr : Array Value} {D : Dev} (r : RD k t h b za c arr D) (hz : z < D.zs.length) : ∃ a d, PRow k z t h a d D.zs[z].pages ∧
    cellH h (((⟨za, 0, none⟩ : Addr).add (Int.toNat (z : Int) * 3)).add 0) = some (.slice a D.zs[z].pages.length d) ∧ cellH h (((⟨za, 0, none⟩ : Addr).add (Int.toNat (z : Int) * 3)).add 1) = some (.int .i64 (D.zs[z].sure : Int)) ∧ cellH h (((⟨za, 0, none⟩ : Addr).add (Int.toNat (z : Int) * 3)).add 2) = some (.bool D.zs[z].fin) ∧
    arr[z * 3]? = some (.slice a D.zs[z].pages.length d) ∧ arr[z * 3 + 1]? = some (.int .i64 (D.zs[z].sure : Int)) ∧ arr[z * 3 + 2]? = some (.bool D.zs[z].fin) := by
  obtain ⟨a, d, hp, c0, c1, c2⟩ := r.zR hz
  refine ⟨a, d, hp, ?_, ?_, ?_, c0, c1, c2⟩
  · rw [add_mk, add_mk, Int.toNat_natCast]; exact r.cell (j := 0) c0 _ (by omega)
  · rw [add_mk, add_mk, Int.toNat_natCast]; exact r.cell c1 _ (by omega)
  · rw [add_mk, add_mk, Int.toNat_natCast]; exact r.cell c2 _ (by omega)
theorem point_ok {k b : Nat} {t : Tags} {D : Dev} (n : Int) (h : Heap) (r : RRep k t h b D) : CallsH Tryz.prog 88 [ptr b, .int .i64 n] h fun v h' => v = .int .i64 (D.point n : Int) ∧ h' = h := by
  refine fun_ok hm' Tryz.func88 (by kernel_rfl) (F88_eq _ _ _ h) ?_
  unfold F88
  refine call_of (is_ok n h r) ?_
  rintro v h' ⟨rfl, hh⟩; subst h'
  refine ⟨D.there n, rfl, ?_⟩
  cases ht : D.there n with
  | false => exact br_t rfl ⟨by unfold Dev.point; rw [at_none ht]; rfl, rfl⟩
  | true =>
    obtain ⟨z, rfl, hz⟩ := there_nat ht
    obtain ⟨za, c, arr, r⟩ := r
    obtain ⟨a, d, hp, e0, e1, e2, _⟩ := RD.at0 r hz
    exact br_f rfl (ld_of (c := .slice) (some ⟨za, 0, none⟩, D.zs.length, c) r.cz (ptr_of (ix_of hz (ld_of (c := .slice) (a, D.zs[z].pages.length, d) e0 ⟨by unfold Dev.point; rw [at_of hz], rfl⟩))))
theorem state_ok {k b : Nat} {t : Tags} {D : Dev} (n : Int) (h : Heap) (r : RRep k t h b D) : CallsH Tryz.prog 80 [ptr b, .int .i64 n] h fun v h' => v = .int .i64 (D.state n) ∧ h' = h := by
  refine fun_ok hm' Tryz.func80 (by kernel_rfl) (F80_eq _ _ _ h) ?_
  unfold F80
  refine call_of (point_ok n h r) ?_
  rintro v h' ⟨rfl, hh⟩; subst h'
  refine ⟨(D.point n : Int), rfl, br_of (fun h0 => ⟨?_, rfl⟩) fun h0 => ?_⟩
  · have h0 : (D.at_ n).pages.length = 0 := by simp only [beq_iff_eq] at h0; unfold Dev.point at h0; omega
    unfold Dev.state; rw [if_pos h0]
  have h0 : ¬ (D.at_ n).pages.length = 0 := by simp only [beq_eq_false_iff_ne, ne_eq] at h0; unfold Dev.point at h0; omega
  have ht : D.there n = true := by
    cases ht : D.there n with
    | true => rfl
    | false => rw [at_none ht] at h0; exact (h0 rfl).elim
  have r0 := r
  obtain ⟨z, rfl, hz⟩ := there_nat ht
  obtain ⟨za, c, arr, r⟩ := r
  obtain ⟨a, d, hp, e0, e1, e2, _⟩ := RD.at0 r hz
  have ea := at_of hz
  refine ld_of (c := .slice) (some ⟨za, 0, none⟩, D.zs.length, c) r.cz (ptr_of (ix_of hz (ld_of (c := .bool) D.zs[z].fin e2 (br_of (fun hf => ⟨?_, rfl⟩) fun hf => ld_of (c := .int .i64) (D.P : Int) r.cP (call_of (point_ok (z : Int) h r0) ?_)))))
  · unfold Dev.state; rw [if_neg h0, if_pos (.inl (by rw [ea]; exact hf))]
  rintro v h' ⟨rfl, hh⟩; subst h'
  refine ⟨(D.point (z : Int) : Int), rfl, r.cP, br_of (fun hp => ⟨?_, rfl⟩) fun hp => ⟨?_, rfl⟩⟩
  · have hp : (D.at_ (z : Int)).pages.length = D.P := by simp only [beq_iff_eq] at hp; unfold Dev.point at hp; omega
    unfold Dev.state; rw [if_neg h0, if_pos (.inr hp)]
  · have hp : ¬ (D.at_ (z : Int)).pages.length = D.P := by simp only [beq_eq_false_iff_ne, ne_eq] at hp; unfold Dev.point at hp; omega
    unfold Dev.state; rw [if_neg h0, if_neg (by rw [ea] at hp ⊢; simp [hf, hp])]
theorem may_ok {k b : Nat} {t : Tags} {D : Dev} (o : DevOk D) (e : Int) (h : Heap) (r : RRep k t h b D) :
    CallsH Tryz.prog 58 [ptr b, .int .i64 e] h fun v h' => v = .int .i64 (D.doing e).2 ∧ RRep k t h' b (D.doing e).1 ∧ Upd b h h' := by
  refine fun_ok hm' Tryz.func58 (by kernel_rfl) (F58_eq _ _ _ h) ?_
  unfold F58
  obtain ⟨za, c, arr, r⟩ := r
  have ho := o.fuse
  refine ld_of (c := .bool) D.down r.cd (br_of (fun hd => ?_) fun hd => br_of (fun he => ?_) fun he => ld_of (c := .int .i64) D.fuse r.cf (br_of (fun hf => ?_) fun hf => ?_))
  · have e1 : D.doing e = (D, 7) := by unfold Dev.doing; rw [if_pos hd]
    rw [e1]; exact ⟨rfl, ⟨za, c, arr, r⟩, Upd.refl _ _⟩
  · have he : e ≠ 0 := by simpa using he
    have e1 : D.doing e = (D, e) := by unfold Dev.doing; rw [if_neg (by simp [hd]), if_pos he]
    rw [e1]; exact ⟨rfl, ⟨za, c, arr, r⟩, Upd.refl _ _⟩
  · have he : e = 0 := by simpa using he
    have hf : D.fuse = 0 := by simpa using hf
    have e1 : D.doing e = ({ D with down := true }, 7) := by unfold Dev.doing; rw [if_neg (by simp [hd]), if_neg (by simp [he]), if_pos hf]
    rw [e1, add_mk]
    exact st_blk r.blk (show 0 + 4 < 5 by omega) fun h1 b1 o1 => ⟨rfl, ⟨za, c, arr, r.setD rfl b1 o1.upd⟩, o1.upd⟩
  · have he : e = 0 := by simpa using he
    have hf : D.fuse ≠ 0 := by simpa using hf
    have e1 : D.doing e = ({ D with fuse := max (D.fuse - 1) (-1), ops := IntKind.wrap .i64 (D.ops + 1) }, 0) := by unfold Dev.doing; rw [if_neg (by simp [hd]), if_neg (by simp [he]), if_neg hf]
    rw [e1]
    refine cut_q (ts := []) (fun _ h' => RD k t h' b za c arr { D with fuse := max (D.fuse - 1) (-1) } ∧ Upd b h h') ?_ ?_
    · rintro _ h1 ⟨r1, u1⟩ _
      refine ld_of (c := .int .i64) D.ops r1.co ?_
      rw [add_mk]
      exact st_blk r1.blk (show 0 + 3 < 5 by omega) fun h2 b2 o2 => ⟨rfl, ⟨za, c, arr, r1.setD rfl b2 o2.upd⟩, u1.trans o2.upd⟩
    · intro K hK
      refine ld_of (c := .int .i64) D.fuse r.cf (br_of (fun hp => ld_of (c := .int .i64) D.fuse r.cf ?_) fun hp => hK () _ ⟨?_, Upd.refl _ _⟩)
      · have hp := of_decide_eq_true hp
        rw [wr64 (by omega) (by omega), add_mk]
        refine st_blk r.blk (show 0 + 2 < 5 by omega) fun h1 b1 o1 => hK () _ ⟨r.setD rfl ?_ o1.upd, o1.upd⟩
        have : max (D.fuse - 1) (-1) = D.fuse - 1 := by omega
        rw [this]; exact b1
      · have hp := of_decide_eq_false hp
        have : max (D.fuse - 1) (-1) = D.fuse := by omega
        rw [this]; exact r
theorem fuse_ok {k b : Nat} {t : Tags} {D : Dev} (n : Int) (h : Heap) (r : RRep k t h b D) : CallsH Tryz.prog 34 [ptr b, .int .i64 n] h fun v h' => v = .tuple #[] ∧ RRep k t h' b (D.setFuse n) ∧ Upd b h h' := by
  refine fun_ok hm' Tryz.func34 (by kernel_rfl) (F34_eq _ _ _ h) ?_
  unfold F34
  obtain ⟨za, c, arr, r⟩ := r
  rw [add_mk]
  refine st_blk r.blk (show 0 + 2 < 5 by omega) fun h1 b1 o1 => ?_
  have r1 : RD k t h1 b za c arr { D with fuse := n } := r.setD rfl b1 o1.upd
  refine br_of (fun hn => ?_) fun hn => ⟨rfl, ⟨za, c, arr, ?_⟩, o1.upd⟩
  · have hn := of_decide_eq_true hn
    refine st_blk r1.blk (show 0 + 2 < 5 by omega) fun h2 b2 o2 => ⟨rfl, ⟨za, c, arr, ?_⟩, o1.upd.trans o2.upd⟩
    have r2 : RD k t h2 b za c arr { D with fuse := -1 } := r1.setD rfl b2 o2.upd
    have : max n (-1) = -1 := by omega
    unfold Dev.setFuse; rw [this]; exact r2
  · have hn := of_decide_eq_false hn
    have : max n (-1) = n := by omega
    unfold Dev.setFuse; rw [this]; exact r1
/-- The pages of a zone are other ones: a new row is laid. -/
theorem RD.pages {k b za c z : Nat} {t t2 : Tags} {h h2 h3 : Heap} {arr : Array Value} {D : Dev} (r : RD k t h b za c arr D) (hz : z < D.zs.length) (f : Fr (fun q => q ≠ (k, 2 + z)) t h t2 h2) {a2 : Option Addr} {c2 : Nat} {pages : List (List Int)} (hp : PRow k z t2 h2 a2 c2 pages)
    (hb : Blk h3 za (arr.setIfInBounds (z * 3) (.slice a2 pages.length c2)) 78) (o : Only za h2 h3) :
    RD k t2 h3 b za c (arr.setIfInBounds (z * 3) (.slice a2 pages.length c2)) { D with zs := D.zs.set z { D.zs[z] with pages := pages } } ∧ Fr (fun p => p.1 ≠ k) t h t2 h3 := by
  obtain ⟨a, d, _, c0, c1, c2'⟩ := r.zR hz
  have hk := r.own
  have hsz := r.size; have hle := r.le
  have hS : ∀ q : Nat × Nat, q.1 = 0 → q ≠ (k, 1) := fun q hq e => by subst e; exact hk hq
  have hS2 : ∀ q : Nat × Nat, q.1 = 0 → q ≠ (k, 2 + z) := fun q hq e => by subst e; exact hk hq
  have f2 : Fr (fun q => q ≠ (k, 1)) t2 h2 t2 h3 := Fr.upd o.upd fun hn => hn (by rw [f.tags za r.zblk.lt]; exact r.tagZ)
  have f3 : Fr (fun q => q ≠ (k, 1) ∧ q ≠ (k, 2 + z)) t h t2 h3 := (f.mono fun _ hq => hq.2).trans (f2.mono fun _ hq => hq.1)
  obtain ⟨q1, q2, q3, q4⟩ := set3 (arr := arr) (z := z) (o := 0) (n := z * 3) (v := .slice a2 pages.length c2) (by omega) (by omega) rfl
  refine ⟨r.put (Z := { D.zs[z] with pages := pages }) f3 (fun q hq => ⟨hS q hq, hS2 q hq⟩) ⟨tagne (by omega), tagne (by omega)⟩ (fun j hj => ⟨tagne (by omega), tagne (by omega)⟩) hb q1 q2 ⟨a2, c2, fun j hj => ?_, hp.fr f2 hS (tagne (by omega))⟩, f3.mono fun q hq => ⟨fun e => hq (by rw [e]), fun e => hq (by rw [e])⟩⟩
  match j, hj with
  | 0, _ => exact q3
  | 1, _ => rw [q4 1 (by omega) (by omega)]; exact c1
  | 2, _ => rw [q4 2 (by omega) (by omega)]; exact c2'
theorem append_ok {k b : Nat} {t : Tags} {D : Dev} (o : DevOk D) (n : Int) (ba : Option Addr) (bc : Nat) (bs : List Int) (h : Heap) (r : RRep k t h b D) (hl : bs.length ≤ 1000) (im : Im .u8 t h ba bs) :
    CallsH Tryz.prog 52 [ptr b, .int .i64 n, .slice ba bs.length bc] h fun v h' => v = .tuple #[.int .i64 ((D.append n bs).2.1), .int .i64 (D.append n bs).2.2] ∧ Acted k t h b (D.append n bs).1 h' := by
  refine fun_ok hm' Tryz.func52 (by kernel_rfl) (F52_eq _ _ _ _ _ _ h) ?_
  unfold F52
  refine cut_q (ts := [.sc (.int .i64)]) (fun (e : Int) h' => e = D.appendE n bs ∧ h' = h) ?_ ?_
  rotate_left
  · intro K hK
    refine cut_q (ts := [.sc .bool]) (fun (s : Bool) h' => s = decide (D.there n = false ∨ bs.length ≠ 33) ∧ h' = h) ?_ ?_
    · rintro s h' ⟨rfl, hh⟩ _; subst h'
      refine br_of (fun hs => hK _ _ ⟨?_, rfl⟩) fun hs => ?_
      · unfold Dev.appendE; rw [if_pos (of_decide_eq_true hs)]
      have hs := of_decide_eq_false hs
      refine call_of (state_ok n h r) ?_
      rintro v h' ⟨rfl, hh⟩; subst h'
      refine ⟨D.state n, rfl, br_of (fun h5 => hK _ _ ⟨?_, rfl⟩) fun h5 => hK _ _ ⟨?_, rfl⟩⟩
      · unfold Dev.appendE; rw [if_neg hs, if_pos (by simpa using h5)]
      · unfold Dev.appendE; rw [if_neg hs, if_neg (by simpa using h5)]
    · intro K2 hK2
      refine call_of (is_ok n h r) ?_
      rintro v h' ⟨rfl, hh⟩; subst h'
      refine ⟨D.there n, rfl, ?_⟩
      cases ht : D.there n with
      | false => exact br_t rfl (hK2 _ _ ⟨by simp [ht], rfl⟩)
      | true =>
        refine br_f rfl (hK2 _ _ ⟨?_, rfl⟩)
        rw [Bool.eq_iff_iff]; simp [ht]; omega
  rintro e h' ⟨he, hh⟩ _; subst h'
  have he : e = D.appendE n bs := he
  subst he
  refine call_of (may_ok o (D.appendE n bs) h r) ?_
  rintro v h1 ⟨rfl, r1, u1⟩
  refine ⟨(D.doing (D.appendE n bs)).2, rfl, br_of (fun h0 => ?_) fun h0 => ?_⟩
  · have h0 : (D.doing (D.appendE n bs)).2 ≠ 0 := by simpa using h0
    have ea : D.append n bs = ((D.doing (D.appendE n bs)).1, 0, (D.doing (D.appendE n bs)).2) := by unfold Dev.append; simp only []; rw [if_pos h0]
    rw [ea]
    obtain ⟨za, c, arr, r⟩ := r
    exact ⟨rfl, t, r1, Fr.upd u1 fun hn => hn (by rw [r.tagB])⟩
  have h0 : (D.doing (D.appendE n bs)).2 = 0 := by simpa using h0
  have hE := (doing_ok h0).1
  have ea : D.append n bs = ((D.doing (D.appendE n bs)).1.setZ n { D.at_ n with pages := (D.at_ n).pages ++ [bs] }, (D.point n : Int), 0) := by
    unfold Dev.append; simp only []; rw [if_neg (by simp [h0])]
  rw [ea]
  have ht : D.there n = true := by
    cases ht : D.there n with
    | true => rfl
    | false => unfold Dev.appendE at hE; rw [if_pos (.inl ht)] at hE; cases hE
  obtain ⟨z, rfl, hz⟩ := there_nat ht
  have f01 : Fr (fun p => p.1 ≠ k) t h t h1 := by obtain ⟨za, c, arr, r⟩ := r; exact Fr.upd u1 fun hn => hn (by rw [r.tagB])
  obtain ⟨za, c, arr, r1⟩ := r1
  have hk := r1.own
  have own0 : ∀ q : Nat × Nat, q.1 = 0 → q.1 ≠ k := fun q hq e => hk (by rw [← e]; exact hq)
  have im1 : Im .u8 t h1 ba bs := im.fr f01 own0
  obtain ⟨E, hEd⟩ : ∃ E, E = (D.doing (D.appendE (z : Int) bs)).1 := ⟨_, rfl⟩
  rw [← hEd] at r1 ⊢
  have ezs : E.zs = D.zs := by rw [hEd, doing_zs]
  have hzE : z < E.zs.length := by rw [ezs]; exact hz
  have eZ : E.zs[z] = D.zs[z] := by simp only [ezs]
  have l16 := o.len hz
  obtain ⟨a, d, hp, e0, e1, e2, _, _, _⟩ := RD.at0 r1 hzE
  rw [eZ] at hp e0
  have hzc : z < (some (⟨za, 0, none⟩ : Addr), E.zs.length, c).2.1 := hzE
  refine cut_q (ts := []) (fun _ h' => ∃ t2 c2 arr2, RD k t2 h' b za c2 arr2 { E with zs := E.zs.set z { E.zs[z] with pages := D.zs[z].pages ++ [bs] } } ∧ Fr (fun p => p.1 ≠ k) t h1 t2 h') ?_ ?_
  · rintro _ h2 ⟨t2, c2, arr2, r2, f2⟩ _
    have hz2 : z < (E.zs.set z { E.zs[z] with pages := D.zs[z].pages ++ [bs] }).length := by simpa using hzE
    obtain ⟨a2, d2, _, e0', _, _, _⟩ := RD.at0 r2 hz2
    simp only [List.getElem_set_self] at e0'
    refine ld_of (c := .slice) (some ⟨za, 0, none⟩, _, c2) r2.cz (ptr_of (ix_of hz2 (ld_of (c := .slice) (a2, (D.zs[z].pages ++ [bs]).length, d2) e0' ⟨?_, t2, ⟨za, c2, arr2, ?_⟩, f01.trans f2⟩)))
    · have hll : (D.zs[z].pages ++ [bs]).length = D.zs[z].pages.length + 1 := by simp
      rw [wr64 (by simp only [hll]; omega) (by simp only [hll]; omega)]
      have : (((D.zs[z].pages ++ [bs]).length : Nat) : Int) - 1 = (D.point (z : Int) : Int) := by unfold Dev.point; rw [at_of hz]; simp
      rw [this]
    · have e : E.setZ (z : Int) { D.at_ (z : Int) with pages := (D.at_ (z : Int)).pages ++ [bs] } = { E with zs := E.zs.set z { E.zs[z] with pages := D.zs[z].pages ++ [bs] } } := by
        rw [at_of hz]; unfold Dev.setZ; rw [Int.toNat_natCast, eZ]
      rw [e]; exact r2
  · intro K hK
    -- what follows the copies of the row and of the bytes
    have last : ∀ (h2 h3 : Heap) (t2 : Tags) (a2 a3 : Option Addr) (c2 c3 : Nat), Fr (fun q => q ≠ (k, 2 + z)) t h1 t2 h2 → PRow k z t2 h2 a2 c2 D.zs[z].pages → New h2 h3 → Im .u8 (lay t2 h2.size (0, 0)) h3 a3 bs →
        newW (.cells #[.slice a3 bs.length c3] 43) (fun a32 h33 => apW Tryz.prog #[76, 76] #[.slice a2 D.zs[z].pages.length c2, .slice (some a32) 1 1] (fun b34 n35 c36 h37 =>
          (cellH h37 (Addr.add ⟨b, 0, none⟩ 0) = some (.slice (some ⟨za, 0, none⟩) E.zs.length c) ∧ ptrW (some ⟨za, 0, none⟩) (fun a38 => idxW (z : Int) E.zs.length true (stW (Addr.add (Addr.add a38 (Int.toNat (z : Int) * 3)) 0) (.slice b34 n35 c36) (fun h39 => K () h39) h37)))) h33) h3 := by
      intro h2 h3 t2 a2 a3 c2 c3 f2 hp2 n3 im3
      have f3 : Fr (fun q => q ≠ (k, 2 + z)) t h1 (lay t2 h2.size (0, 0)) h3 := f2.trans (Fr.lay n3 _)
      have hp3 : PRow k z (lay t2 h2.size (0, 0)) h3 a2 c2 D.zs[z].pages := hp2.fr (S := fun _ => True) (Fr.lay n3 _) (fun _ _ => trivial) trivial
      refine PRow.push hp3 hk im3 (by omega) fun a4 c4 h4 t4 f4 hp4 => ?_
      have f14 := f3.trans f4
      have bB := f14.blk r1.blk (by rw [r1.tagB]; exact tagne (by omega))
      have bZ := f14.blk r1.zblk (by rw [r1.tagZ]; exact tagne (by omega))
      refine ⟨by rw [add_mk, cellH_blk bB]; rfl, ptr_of (ix_of hzE ?_)⟩
      have hsz := r1.size; have hle := r1.le
      rw [add_mk, add_mk, Int.toNat_natCast, Nat.zero_add, Nat.add_zero]
      have hlen : (D.zs[z].pages ++ [bs]).length = D.zs[z].pages.length + 1 := by simp
      refine st_blk bZ (by omega) fun h5 b5 o5 => ?_
      rw [← hlen] at b5
      obtain ⟨r5, f5⟩ := RD.pages r1 hzE f14 hp4 b5 o5
      exact hK () h5 ⟨t4, c, _, r5, f5⟩
    refine ld_of (c := .slice) (some ⟨za, 0, none⟩, E.zs.length, c) r1.cz (ld_of (c := .slice) (some ⟨za, 0, none⟩, E.zs.length, c) r1.cz (ptr_of (ix_of hzE (ld_of (c := .slice) (a, D.zs[z].pages.length, d) e0 ⟨?_, ?_⟩))))
    · refine new_of fun h2 b2 n2 s2 => ?_
      have keep : ∀ {h' : Heap}, New h1 h' → cellH h' (Addr.add ⟨b, 0, none⟩ 0) = some (.slice (some ⟨za, 0, none⟩) E.zs.length c) := fun n => by rw [add_mk, cellH_blk (r1.blk.new n)]; rfl
      refine ⟨?_, ?_⟩
      · have t2 := lay_ge (t := t) (p := (k, 2 + z)) (Nat.le_refl h1.size)
        have hp2 : PRow k z (lay t h1.size (k, 2 + z)) h2 a d D.zs[z].pages := hp.fr (S := fun _ => True) (Fr.lay n2 _) (fun _ _ => trivial) trivial
        refine hp2.copy (by omega) b2.lt t2 fun a3 c3 h3 hp3 n3 => ⟨keep (n2.trans n3), new_of fun h4 b4 n4 s4 => ?_⟩
        have f3 : Fr (fun q => q ≠ (k, 2 + z)) t h1 (lay (lay t h1.size (k, 2 + z)) h2.size (k, 2 + z)) h3 := (Fr.lay n2 _).trans (Fr.lay n3 _)
        have im4 : Im .u8 (lay (lay t h1.size (k, 2 + z)) h2.size (k, 2 + z)) h4 ba bs := (im1.fr f3 (fun q hq e => by subst e; exact hk hq)).new n4
        have hp4 : PRow k z (lay (lay t h1.size (k, 2 + z)) h2.size (k, 2 + z)) h4 a3 c3 D.zs[z].pages := hp3.fr (S := fun _ => True) (Fr.new0 n4) (fun _ _ => trivial) trivial
        refine bytes_copy rfl im4 hl fun a5 c5 h5 im5 n5 => ⟨keep (((n2.trans n3).trans n4).trans n5), last h4 h5 _ a3 a5 c3 c5 (f3.trans (Fr.new0 n4)) hp4 n5 im5⟩
      · refine new_of fun h3 b3 n3 s3 => ?_
        have n13 := n2.trans n3
        have t3 := lay_ge (t := t) (p := (k, 2 + z)) (Nat.le_refl h1.size)
        have hp3 : PRow k z (lay t h1.size (k, 2 + z)) h3 a d D.zs[z].pages := hp.fr (S := fun _ => True) (Fr.lay n13 _) (fun _ _ => trivial) trivial
        refine hp3.copy (by omega) (b2.new n3).lt t3 fun a4 c4 h4 hp4 n4 => ⟨keep (n13.trans n4), ?_⟩
        have f4 : Fr (fun q => q ≠ (k, 2 + z)) t h1 (lay (lay t h1.size (k, 2 + z)) h3.size (k, 2 + z)) h4 := (Fr.lay n13 _).trans (Fr.lay n4 _)
        have im4 := im1.fr f4 (fun q hq e => by subst e; exact hk hq)
        exact bytes_copy rfl im4 hl fun a5 c5 h5 im5 n5 => ⟨keep ((n13.trans n4).trans n5), last h4 h5 _ a4 a5 c4 c5 f4 hp4 n5 im5⟩
    · refine new_of fun h2 b2 n2 s2 => new_of fun h3 b3 n3 s3 => ?_
      have keep : ∀ {h' : Heap}, New h1 h' → cellH h' (Addr.add ⟨b, 0, none⟩ 0) = some (.slice (some ⟨za, 0, none⟩) E.zs.length c) := fun n => by rw [add_mk, cellH_blk (r1.blk.new n)]; rfl
      have n13 := n2.trans n3
      have t3 := lay_ge (t := t) (p := (k, 2 + z)) (show h1.size ≤ h2.size by omega)
      have hp3 : PRow k z (lay t h1.size (k, 2 + z)) h3 a d D.zs[z].pages := hp.fr (S := fun _ => True) (Fr.lay n13 _) (fun _ _ => trivial) trivial
      refine hp3.copy (by omega) b3.lt t3 fun a4 c4 h4 hp4 n4 => ⟨keep (n13.trans n4), ?_⟩
      have f4 : Fr (fun q => q ≠ (k, 2 + z)) t h1 (lay (lay t h1.size (k, 2 + z)) h3.size (k, 2 + z)) h4 := (Fr.lay n13 _).trans (Fr.lay n4 _)
      have im4 := im1.fr f4 (fun q hq e => by subst e; exact hk hq)
      exact bytes_copy rfl im4 hl fun a5 c5 h5 im5 n5 => ⟨keep ((n13.trans n4).trans n5), last h4 h5 _ a4 a5 c4 c5 f4 hp4 n5 im5⟩
theorem read_ok {k b : Nat} {t : Tags} {D : Dev} (o : DevOk D) (n p : Int) (h : Heap) (r : RRep k t h b D) :
    CallsH Tryz.prog 55 [ptr b, .int .i64 n, .int .i64 p] h fun v h' => ∃ a c, v = .tuple #[.slice a (D.read n p).1.length c, .int .i64 (D.read n p).2] ∧ Got .u8 5 h h' a c (D.read n p).1 := by
  refine fun_ok hm' Tryz.func55 (by kernel_rfl) (F55_eq _ _ _ _ h) ?_
  unfold F55
  have r0 := r
  obtain ⟨za, d, arr, r2⟩ := r0
  refine ld_of (c := .bool) D.down r2.cd (br_of (fun hd => ?_) fun hd => ?_)
  · have e : D.read n p = ([], 7) := by unfold Dev.read; rw [if_pos hd]
    rw [e]; exact ⟨none, 0, rfl, Got.nil _ _ (New.refl h)⟩
  have no1 : (D.there n = false ∨ p < 0 ∨ p ≥ D.P) → D.read n p = ([], 1) := fun hs => by unfold Dev.read; rw [if_neg (by simp [hd]), if_pos hs]
  refine cut_q (ts := []) (fun _ h' => h' = h ∧ ¬ (D.there n = false ∨ p < 0 ∨ p ≥ D.P)) ?_ ?_
  rotate_left
  · intro K hK
    refine call_of (is_ok n h r) ?_
    rintro v h' ⟨rfl, hh⟩; subst h'
    refine ⟨D.there n, rfl, ?_⟩
    cases ht : D.there n with
    | false => rw [no1 (.inl ht)]; exact br_t rfl ⟨none, 0, rfl, Got.nil _ _ (New.refl h)⟩
    | true =>
      refine br_f rfl (br_of (fun h0 => ?_) fun h0 => ld_of (c := .int .i64) (D.P : Int) r2.cP (br_of (fun h1 => ?_) fun h1 => hK () _ ⟨rfl, ?_⟩))
      · rw [no1 (.inr (.inl (of_decide_eq_true h0)))]; exact ⟨none, 0, rfl, Got.nil _ _ (New.refl h)⟩
      · rw [no1 (.inr (.inr (of_decide_eq_true h1)))]; exact ⟨none, 0, rfl, Got.nil _ _ (New.refl h)⟩
      · have h0 := of_decide_eq_false h0; have h1 := of_decide_eq_false h1
        rintro (e | e | e)
        · rw [ht] at e; cases e
        · exact h0 e
        · exact h1 e
  rintro _ h' ⟨hh, hs⟩ _; subst h'
  have e := ZnsP.readE hd hs
  have ht : D.there n = true := by
    cases ht : D.there n with
    | true => rfl
    | false => exact (hs (.inl ht)).elim
  obtain ⟨z, rfl, hz⟩ := there_nat ht
  rw [at_of hz] at e
  obtain ⟨a, c, hp, e0, e1, e2, _⟩ := RD.at0 r2 hz
  refine ld_of (c := .slice) (some ⟨za, 0, none⟩, D.zs.length, d) r2.cz (ptr_of (ix_of hz (ld_of (c := .slice) (a, D.zs[z].pages.length, c) e0 (br_of (fun h0 => ?_) fun h0 => ?_))))
  · rw [e, if_pos (of_decide_eq_true h0)]; exact ⟨none, 0, rfl, Got.nil _ _ (New.refl h)⟩
  have h0 := of_decide_eq_false h0
  rw [if_neg h0] at e
  obtain ⟨i, rfl⟩ := Int.eq_ofNat_of_zero_le (show 0 ≤ p by omega)
  have hi : i < D.zs[z].pages.length := by simp only [] at h0; omega
  rw [Int.toNat_natCast] at e
  have eg : D.zs[z].pages.getD i [] = D.zs[z].pages[i] := by simp [List.getD_eq_getElem?_getD, List.getElem?_eq_getElem hi]
  rw [eg] at e
  obtain ⟨a', c', im, ld⟩ := hp.ld hi
  have hl : D.zs[z].pages[i].length ≤ 1000 := by
    rcases ((o.zone _ (List.getElem_mem hz)).page _ (List.getElem_mem hi)).2 with h33 | h0
    · omega
    · rw [h0]; simp
  refine ld_of (c := .slice) (some ⟨za, 0, none⟩, D.zs.length, d) r2.cz (ptr_of (ix_of hz (ld_of (c := .slice) (a, D.zs[z].pages.length, c) e0 (ld hi (br_of (fun h3 => ?_) fun h3 => ?_)))))
  · rw [e, if_pos (by simp only [beq_iff_eq] at h3; omega)]; exact ⟨none, 0, rfl, Got.nil _ _ (New.refl h)⟩
  rw [e, if_neg (by simp only [beq_eq_false_iff_ne, ne_eq] at h3; omega)]
  refine new_of fun h1 b1 n1 s1 => ?_
  have r3 := r2.new n1
  obtain ⟨a3, c3, hp3, e3, _⟩ := RD.at0 r3 hz
  obtain ⟨a4, c4, im4, ld4⟩ := hp3.ld hi
  refine ld_of (c := .slice) (some ⟨za, 0, none⟩, D.zs.length, d) r3.cz (ptr_of (ix_of hz (ld_of (c := .slice) (a3, D.zs[z].pages.length, c3) e3 (ld4 hi ?_))))
  have gA : Grow h1 (some h.size) h1 5 1 (some ⟨h.size, 0, none⟩) 0 0 (([] : List Int).map (Value.int .u8)) := Grow.start (RowS.blk b1 rfl (Nat.zero_le _))
  refine Grow.ints ap8 gA im4.ar rfl (by omega) (by omega) fun aB cB hB gB => ?_
  rw [List.nil_append] at gB ⊢
  exact ⟨aB, cB, rfl, gB.got n1 (fun b e => by injection e with e; omega)⟩
theorem reset_ok {k b : Nat} {t : Tags} {D : Dev} (o : DevOk D) (n : Int) (h : Heap) (r : RRep k t h b D) :
    CallsH Tryz.prog 32 [ptr b, .int .i64 n] h fun v h' => v = .int .i64 (D.reset n).2 ∧ Acted k t h b (D.reset n).1 h' := by
  refine fun_ok hm' Tryz.func32 (by kernel_rfl) (F32_eq _ _ _ h) ?_
  unfold F32
  refine cut_q (ts := [.sc (.int .i64)]) (fun (e : Int) h' => e = D.resetE n ∧ h' = h) ?_ ?_
  rotate_left
  · intro K hK
    refine call_of (is_ok n h r) ?_
    rintro v h' ⟨rfl, hh⟩; subst h'
    refine ⟨D.there n, rfl, ?_⟩
    cases ht : D.there n with
    | false => exact br_t rfl (hK _ _ ⟨by unfold Dev.resetE; rw [if_pos ht], rfl⟩)
    | true => exact br_f rfl (hK _ _ ⟨by unfold Dev.resetE; rw [if_neg (by simp [ht])], rfl⟩)
  rintro e h' ⟨he, hh⟩ _; subst h'
  have he : e = D.resetE n := he
  subst he
  refine call_of (may_ok o (D.resetE n) h r) ?_
  rintro v h1 ⟨rfl, r1, u1⟩
  have f01 : Fr (fun p => p.1 ≠ k) t h t h1 := by obtain ⟨za, c, arr, r⟩ := r; exact Fr.upd u1 fun hn => hn (by rw [r.tagB])
  refine ⟨(D.doing (D.resetE n)).2, rfl, br_of (fun h0 => ?_) fun h0 => ?_⟩
  · have h0 : (D.doing (D.resetE n)).2 = 0 := by simpa using h0
    have hE := (doing_ok h0).1
    have er : D.reset n = ((D.doing (D.resetE n)).1.setZ n Zn.bare, 0) := by unfold Dev.reset; simp only []; rw [if_neg (by simp [h0])]
    have ht : D.there n = true := by
      cases ht : D.there n with
      | true => rfl
      | false => unfold Dev.resetE at hE; rw [if_pos ht] at hE; cases hE
    obtain ⟨z, rfl, hz⟩ := there_nat ht
    obtain ⟨za, c, arr, r1⟩ := r1
    have hk := r1.own
    have hzE : z < (D.doing (D.resetE (z : Int))).1.zs.length := by rw [doing_zs]; exact hz
    refine ld_of (c := .slice) (some ⟨za, 0, none⟩, _, c) r1.cz (ptr_of (ix_of hzE ?_))
    have hsz := r1.size; have hle := r1.le
    rw [add_mk, Int.toNat_natCast, Nat.zero_add, h0, er]
    refine stL_blk r1.zblk (by simp; omega) fun h2 b3 o3 => ⟨rfl, t, ⟨za, c, setsA arr (z * 3) [.slice none 0 0, .int .i64 0, .bool false], ?_⟩, f01.trans (Fr.upd o3.upd fun hn => hn (by rw [r1.tagZ]))⟩
    have hS : ∀ q : Nat × Nat, q.1 = 0 → q ≠ (k, 1) := fun q hq e => by subst e; exact hk hq
    have f : Fr (fun q => q ≠ (k, 1)) t h1 t h2 := Fr.upd o3.upd fun hn => hn r1.tagZ
    have hin : ∀ j, j < 3 → (setsA arr (z * 3) [Value.slice none 0 0, .int .i64 0, .bool false])[z * 3 + j]? = ([Value.slice none 0 0, .int .i64 0, .bool false] : List Value)[j]? := fun j hj => by
      rw [setsA_get, if_pos ⟨by omega, by simp; omega, by omega⟩]; congr 1; omega
    have := r1.put (Z := Zn.bare) f hS (tagne (by omega)) (fun j hj => tagne (by omega)) b3 (setsA_size ..) (fun i hi => by rw [setsA_get, if_neg (by simp; omega)]) ⟨none, 0, hin, PRow.nil _ _ _ _⟩
    unfold Dev.setZ; rw [Int.toNat_natCast]; exact this
  · have h0 : (D.doing (D.resetE n)).2 ≠ 0 := by simpa using h0
    have er : D.reset n = D.doing (D.resetE n) := by unfold Dev.reset; simp only []; rw [if_pos h0]
    rw [er]; exact ⟨rfl, t, r1, f01⟩
theorem RD.setSure {k b za c z : Nat} {t : Tags} {h h' : Heap} {arr : Array Value} {D : Dev} (r : RD k t h b za c arr D) (hz : z < D.zs.length) (u : Nat) (hb : Blk h' za (arr.setIfInBounds (z * 3 + 1) (.int .i64 (u : Int))) 78) (o : Only za h h') :
    RD k t h' b za c (arr.setIfInBounds (z * 3 + 1) (.int .i64 (u : Int))) { D with zs := D.zs.set z { D.zs[z] with sure := u } } := by
  obtain ⟨a, d, hp, c0, c1, c2⟩ := r.zR hz
  have hk := r.own
  have hsz := r.size; have hle := r.le
  have hS : ∀ q : Nat × Nat, q.1 = 0 → q ≠ (k, 1) := fun q hq e => by subst e; exact hk hq
  have f : Fr (fun q => q ≠ (k, 1)) t h t h' := Fr.upd o.upd fun hn => hn r.tagZ
  obtain ⟨q1, q2, q3, q4⟩ := set3 (arr := arr) (z := z) (o := 1) (n := z * 3 + 1) (v := .int .i64 (u : Int)) (by omega) (by omega) rfl
  refine r.put f hS (tagne (by omega)) (fun j hj => tagne (by omega)) hb q1 q2 ⟨a, d, fun j hj => ?_, hp.fr f hS (tagne (by omega))⟩
  match j, hj with
  | 0, _ => rw [q4 0 (by omega) (by omega)]; exact c0
  | 1, _ => exact q3
  | 2, _ => rw [q4 2 (by omega) (by omega)]; exact c2
theorem flush_ok {k b : Nat} {t : Tags} {D : Dev} (o : DevOk D) (h : Heap) (r : RRep k t h b D) :
    CallsH Tryz.prog 33 [ptr b] h fun v h' => v = .int .i64 D.flush.2 ∧ Acted k t h b D.flush.1 h' := by
  refine fun_ok hm' Tryz.func33 (by kernel_rfl) (F33_eq _ _ h) ?_
  unfold F33
  refine call_of (may_ok o 0 h r) ?_
  rintro v h1 ⟨rfl, r1, u1⟩
  have f01 : Fr (fun p => p.1 ≠ k) t h t h1 := by obtain ⟨za, c, arr, r⟩ := r; exact Fr.upd u1 fun hn => hn (by rw [r.tagB])
  refine ⟨(D.doing 0).2, rfl, ?_⟩
  obtain ⟨za, c, arr, r1⟩ := r1
  have oE := o.doing 0
  have hzn := oE.zones
  obtain ⟨E, hEd⟩ : ∃ E, E = (D.doing 0).1 := ⟨_, rfl⟩
  rw [← hEd] at r1 oE hzn
  refine ⟨fun (s : Int) h' => ∃ (i : Nat) (arr' : Array Value), s = i ∧ i ≤ E.zs.length ∧ ((D.doing 0).2 ≠ 0 → i = 0) ∧ RD k t h' b za c arr' { E with zs := upto (fun _ Z => Z.settle) i E.zs } ∧ Fr (fun p => p.1 ≠ k) t h t h', fun (s : Int) _ => ((E.zs.length : Int) - s).toNat, ⟨0, arr, rfl, Nat.zero_le _, fun _ => rfl, by rw [upto_zero]; exact r1, f01⟩, ?_⟩
  rintro s j h2 ⟨i, arr', rfl, hi, h0i, r2, f2⟩
  have hlen : (upto (fun _ (Z : Zn) => Z.settle) i E.zs).length = E.zs.length := upto_len ..
  have ez := r2.cz
  simp only [hlen] at ez
  have fin0 : (D.doing 0).2 ≠ 0 → Acted k t h b D.flush.1 h2 ∧ D.flush.2 = (D.doing 0).2 := fun hne => by
    have er : D.flush = D.doing 0 := by unfold Dev.flush; simp only []; rw [if_pos hne]
    have := h0i hne; subst this
    rw [upto_zero] at r2
    rw [er, ← hEd]; exact ⟨⟨t, ⟨za, c, arr', r2⟩, f2⟩, rfl⟩
  refine cut_q (ts := []) (fun _ h' => h' = h2 ∧ i < E.zs.length ∧ (D.doing 0).2 = 0) ?_ ?_
  rotate_left
  · intro K hK
    refine ld_of (c := .slice) (some ⟨za, 0, none⟩, E.zs.length, c) ez (br_of (fun hlt => br_of (fun h0 => hK () _ ⟨rfl, ?_, by simpa using h0⟩) fun h0 => ?_) fun hlt => ?_)
    · have := of_decide_eq_true hlt; simp only [] at this; omega
    · have h0 : (D.doing 0).2 ≠ 0 := by simpa using h0
      obtain ⟨k1, k2⟩ := fin0 h0
      exact ⟨by rw [k2], k1⟩
    · have hi : i = E.zs.length := by have := of_decide_eq_false hlt; simp only [] at this; omega
      by_cases h0 : (D.doing 0).2 = 0
      · have er : D.flush = (E.settle, 0) := by unfold Dev.flush; simp only []; rw [if_neg (by simp [h0]), ← hEd]
        rw [er, h0]
        refine ⟨rfl, t, ⟨za, c, arr', ?_⟩, f2⟩
        have e : upto (fun _ (Z : Zn) => Z.settle) i E.zs = E.zs.map Zn.settle := by
          rw [hi, upto_full]; apply List.ext_getElem?; intro j; simp [List.getElem?_mapIdx]
        rw [e] at r2; exact r2
      · obtain ⟨k1, k2⟩ := fin0 h0
        exact ⟨by rw [k2], k1⟩
  rintro _ h' ⟨hh, hlt, h0⟩ _; subst h'
  have hlt' : i < (upto (fun _ (Z : Zn) => Z.settle) i E.zs).length := by omega
  have hz : (upto (fun _ (Z : Zn) => Z.settle) i E.zs)[i] = E.zs[i] := by
    have := upto_get (fun _ (Z : Zn) => Z.settle) E.zs (Nat.le_refl i)
    rw [List.getElem?_eq_getElem hlt', List.getElem?_eq_getElem hlt] at this
    exact Option.some.inj this
  obtain ⟨a, d, hp, e0, e1, e2, _⟩ := RD.at0 r2 (z := i) hlt'
  simp only [hz] at e0
  have hsz := r2.size; have hle : (upto (fun _ (Z : Zn) => Z.settle) i E.zs).length ≤ c := r2.le
  refine ld_of (c := .slice) (some ⟨za, 0, none⟩, E.zs.length, c) ez (ld_of (c := .slice) (some ⟨za, 0, none⟩, E.zs.length, c) ez (ptr_of (ix_of hlt (ld_of (c := .slice) (a, E.zs[i].pages.length, d) e0 (ptr_of (ix_of hlt ?_))))))
  rw [add_mk, add_mk, Int.toNat_natCast, Nat.zero_add]
  refine st_blk r2.zblk (by omega) fun h3 b3 o3 => ?_
  have r3 := RD.setSure r2 (z := i) hlt' _ b3 o3
  simp only [hz] at r3
  have e : (upto (fun _ (Z : Zn) => Z.settle) i E.zs).set i { E.zs[i] with sure := E.zs[i].pages.length } = upto (fun _ (Z : Zn) => Z.settle) (i + 1) E.zs := upto_set (fun _ (Z : Zn) => Z.settle) E.zs (List.getElem?_eq_getElem hlt)
  rw [e] at r3
  rw [wr64 (by omega) (by omega)]
  exact ⟨⟨i + 1, _, rfl, hlt, fun hne => (hne h0).elim, r3, f2.trans (Fr.upd o3.upd fun hn => hn (by rw [r2.tagZ]))⟩, (by first | omega | (dsimp only; omega) | (simp only []; omega))⟩
/-- The end of a zone's turn in a crash: what stays is laid anew. -/
theorem crash_tail {k b za c i m q8 d : Nat} {t : Tags} {h : Heap} {arr : Array Value} {D : Dev} {a : Option Addr} {Z : Zn} (r : RD k t h b za c arr D) (hz : i < D.zs.length) (hl : Z.pages.length ≤ 16) (hm : m ≤ Z.pages.length) (hp : PRow k i t h a d Z.pages)
    (b8 : Blk h q8 #[.slice a Z.pages.length d, .int .i64 (Z.sure : Int), .bool Z.fin] 78) (t8 : (t q8).1 = 0) {ta : Option Addr} {tear : List Bool} {tl : Nat} (htl : tl = tear.length) (bt : ZnsP.Bo h ta tear) (tt : tear ≠ [] → ∀ g, blkOf ta = some g → (t g).1 = 0) (hi : i ≤ 24) {K1 : Int → Heap → Prop}
    (hK : ∀ h' t' arr', RD k t' h' b za c arr' { D with zs := D.zs.set i ⟨Z.pages.take m ++ (if (tear.getD i false && decide (m < Z.pages.length)) = true then [[]] else []), (Z.pages.take m ++ (if (tear.getD i false && decide (m < Z.pages.length)) = true then [[]] else [])).length, Z.fin⟩ } → Fr (fun p => p.1 ≠ k) t h t' h' → K1 ((i + 1 : Nat) : Int) h') :
    newW (.cells #[] 43) (fun a19 h20 =>
      ldW .slice (Addr.add ⟨q8, 0, none⟩ 0) (fun (x21 : Option Addr × Nat × Nat) =>
      slW x21.1 x21.2.2 1 (0 : Int) (m : Int) (((x21.2.2 : Nat) : Int)) (fun b22 n23 c24 =>
      apW Tryz.prog #[76, 76] #[.slice (some a19) 0 0, .slice b22 n23 c24] (fun b25 n26 c27 h28 =>
      cutT [.sc .slice] (fun (K29 : ((Option Addr × Nat × Nat)) → Heap → Prop) h39 =>
      br (decide ((i : Int) < (((tl : Nat) : Int))))
      (ptrW ta (fun a30 =>
      idxW (i : Int) tl true (ldW .bool (Addr.add a30 (Int.toNat (i : Int) * 1)) (fun (x31 : Bool) =>
      br x31
      (ldW .slice (Addr.add ⟨q8, 0, none⟩ 0) (fun (x32 : Option Addr × Nat × Nat) =>
      br (decide ((m : Int) < (((x32.2.1 : Nat) : Int))))
      (newW (.cells #[.slice none 0 0] 43) (fun a33 h34 =>
      apW Tryz.prog #[76, 76] #[.slice b25 n26 c27, .slice (some a33) 1 1] (fun b35 n36 c37 h38 =>
      K29 (b35, n36, c37) h38) h34) h39)
      (K29 (b25, n26, c27) h39)) h39)
      (K29 (b25, n26, c27) h39)) h39)))
      (K29 (b25, n26, c27) h39)) (fun (s40 : (Option Addr × Nat × Nat)) _ h41 =>
      ldW .slice (Addr.add ⟨b, 0, none⟩ 0) (fun (x42 : Option Addr × Nat × Nat) =>
      ldW .bool (Addr.add ⟨q8, 0, none⟩ 2) (fun (x43 : Bool) =>
      ptrW x42.1 (fun a44 =>
      idxW (i : Int) x42.2.1 true (stLW (Addr.add a44 (Int.toNat (i : Int) * 3)) [.slice s40.1 s40.2.1 s40.2.2, .int .i64 (((s40.2.1 : Nat) : Int)), .bool x43] (fun h45 =>
      K1 (IntKind.wrap .i64 ((i : Int) + (1 : Int))) h45) h41))) h41) h41) h28) h20)) h20) h := by
  subst htl
  have hk := r.own
  have hS2 : ∀ q : Nat × Nat, q.1 = 0 → q ≠ (k, 2 + i) := fun q hq e => by subst e; exact hk hq
  refine new_of fun h1 b1 n1 s1 => ?_
  refine ld_of (c := .slice) (a, Z.pages.length, d) (by rw [add_mk, cellH_blk (b8.new n1)]; rfl) ⟨⟨by omega, by omega, by have := hp.le; simp only []; omega, by simp only []; omega⟩, ?_⟩
  have en : ((m : Int)).toNat - ((0 : Int)).toNat = m := by omega
  have hml : (Z.pages.take m).length = m := by simp; omega
  have esb : sliceBase a ((0 : Int)).toNat (((d : Nat) : Int)).toNat 1 = a := sliceBase_zero a _
  simp only [en, esb]
  have t1 := lay_ge (t := t) (p := (k, 2 + i)) (Nat.le_refl h.size)
  have f1 : Fr (fun q => q ≠ (k, 2 + i)) t h (lay t h.size (k, 2 + i)) h1 := Fr.lay n1 _
  have hp1 : PRow k i (lay t h.size (k, 2 + i)) h1 a m (Z.pages.take m) := (hp.cut m hm).fr (S := fun _ => True) (Fr.lay n1 _) (fun _ _ => trivial) trivial
  have key := hp1.copy (d' := (((d : Nat) : Int)).toNat - ((0 : Int)).toNat) (r0 := h.size) (by omega) b1.lt t1 (F := fun b25 n26 c27 h28 =>
      cutT [.sc .slice] (fun (K29 : ((Option Addr × Nat × Nat)) → Heap → Prop) h39 =>
      br (decide ((i : Int) < (((tear.length : Nat) : Int))))
      (ptrW ta (fun a30 =>
      idxW (i : Int) tear.length true (ldW .bool (Addr.add a30 (Int.toNat (i : Int) * 1)) (fun (x31 : Bool) =>
      br x31
      (ldW .slice (Addr.add ⟨q8, 0, none⟩ 0) (fun (x32 : Option Addr × Nat × Nat) =>
      br (decide ((m : Int) < (((x32.2.1 : Nat) : Int))))
      (newW (.cells #[.slice none 0 0] 43) (fun a33 h34 =>
      apW Tryz.prog #[76, 76] #[.slice b25 n26 c27, .slice (some a33) 1 1] (fun b35 n36 c37 h38 =>
      K29 (b35, n36, c37) h38) h34) h39)
      (K29 (b25, n26, c27) h39)) h39)
      (K29 (b25, n26, c27) h39)) h39)))
      (K29 (b25, n26, c27) h39)) (fun (s40 : (Option Addr × Nat × Nat)) _ h41 =>
      ldW .slice (Addr.add ⟨b, 0, none⟩ 0) (fun (x42 : Option Addr × Nat × Nat) =>
      ldW .bool (Addr.add ⟨q8, 0, none⟩ 2) (fun (x43 : Bool) =>
      ptrW x42.1 (fun a44 =>
      idxW (i : Int) x42.2.1 true (stLW (Addr.add a44 (Int.toNat (i : Int) * 3)) [.slice s40.1 s40.2.1 s40.2.2, .int .i64 (((s40.2.1 : Nat) : Int)), .bool x43] (fun h45 =>
      K1 (IntKind.wrap .i64 ((i : Int) + (1 : Int))) h45) h41))) h41) h41) h28) ?_
  · rw [hml] at key; exact key
  intro a2 c2 h2 hp2 n2
  have f2 : Fr (fun q => q ≠ (k, 2 + i)) t h (lay (lay t h.size (k, 2 + i)) h1.size (k, 2 + i)) h2 := f1.trans (Fr.lay n2 _)
  generalize lay (lay t h.size (k, 2 + i)) h1.size (k, 2 + i) = t2 at hp2 f2
  have b82 := (b8.new n1).new n2
  have ins2 : ∀ (j : Nat) (x : Bool), tear[j]? = some x → ∃ b o, ta = some ⟨b, o, none⟩ ∧ cellH h2 ⟨b, o + j, none⟩ = some (.bool x) := fun j x hx => by
    obtain ⟨g, o, e, hg, hc⟩ := bt j x hx
    have h0 := tt (fun e => by subst e; simp at hx) g (by rw [e]; rfl)
    exact ⟨g, o, e, by rw [cellH_same (f2.same g hg (hS2 _ h0))]; exact hc⟩
  obtain ⟨torn, htorn⟩ : ∃ torn, torn = (tear.getD i false && decide (m < Z.pages.length)) := ⟨_, rfl⟩
  refine cut_q (ts := [.sc .slice]) (fun (s : Option Addr × Nat × Nat) h3 => ∃ t3, s.2.1 = (Z.pages.take m ++ (if torn = true then [[]] else [])).length ∧ PRow k i t3 h3 s.1 s.2.2 (Z.pages.take m ++ (if torn = true then [[]] else [])) ∧ Fr (fun q => q ≠ (k, 2 + i)) t h t3 h3) ?_ ?_
  · rintro ⟨a3, n3, c3⟩ h3 ⟨t3, e3, hp3, f3⟩ _
    simp only [] at e3 hp3 ⊢
    subst e3
    have bB := f3.blk r.blk (by rw [r.tagB]; exact tagne (by omega))
    have bZ := f3.blk r.zblk (by rw [r.tagZ]; exact tagne (by omega))
    have b83 := f3.blk b8 (hS2 _ t8)
    have hsz := r.size; have hle := r.le
    refine ld_of (c := .slice) (some ⟨za, 0, none⟩, D.zs.length, c) (by rw [add_mk, cellH_blk bB]; rfl) (ld_of (c := .bool) Z.fin (by rw [add_mk, cellH_blk b83]; rfl) (ptr_of (ix_of hz ?_)))
    rw [add_mk, Int.toNat_natCast, Nat.zero_add]
    refine stL_blk bZ (by simp; omega) fun h4 b4 o4 => ?_
    have hS : ∀ q : Nat × Nat, q.1 = 0 → q ≠ (k, 1) := fun q hq e => by subst e; exact hk hq
    have f4 : Fr (fun q => q ≠ (k, 1)) t3 h3 t3 h4 := Fr.upd o4.upd fun hn => hn (by rw [f3.tags za r.zblk.lt]; exact r.tagZ)
    have f04 : Fr (fun q => q ≠ (k, 1) ∧ q ≠ (k, 2 + i)) t h t3 h4 := (f3.mono fun _ hq => hq.2).trans (f4.mono fun _ hq => hq.1)
    have hin : ∀ (v0 v1 v2 : Value) (j : Nat), j < 3 → (setsA arr (i * 3) [v0, v1, v2])[i * 3 + j]? = ([v0, v1, v2] : List Value)[j]? := fun v0 v1 v2 j hj => by
      rw [setsA_get, if_pos ⟨by omega, by simp; omega, by omega⟩]; congr 1; omega
    have wri : IntKind.wrap .i64 ((i : Int) + 1) = ((i + 1 : Nat) : Int) := by rw [wr64 (by omega) (by omega)]; omega
    rw [wri]
    refine hK h4 t3 (setsA arr (i * 3) [.slice a3 (Z.pages.take m ++ (if torn = true then [[]] else [])).length c3, .int .i64 (((Z.pages.take m ++ (if torn = true then [[]] else [])).length : Nat) : Int), .bool Z.fin]) ?_ (f04.mono fun q hq => ⟨fun e => hq (by rw [e]), fun e => hq (by rw [e])⟩)
    rw [← htorn]
    exact r.put f04 (fun q hq => ⟨hS q hq, hS2 q hq⟩) ⟨tagne (by omega), tagne (by omega)⟩ (fun j hj => ⟨tagne (by omega), tagne (by omega)⟩) b4 (setsA_size ..) (fun j hj => by rw [setsA_get, if_neg (by simp; omega)]) ⟨a3, c3, fun j hj => by rw [hin _ _ _ j hj]; rfl, hp3.fr f4 hS (tagne (by omega))⟩
  · intro K hK2
    have plain : torn = false → K (a2, (Z.pages.take m).length, c2) h2 := fun ht => by
      subst ht
      exact hK2 _ _ ⟨t2, by simp, by simpa using hp2, f2⟩
    refine br_of (fun h0 => ?_) fun h0 => ?_
    · have h0 : i < tear.length := by have := of_decide_eq_true h0; omega
      obtain ⟨g, o, e, hc⟩ := ins2 i _ (List.getElem?_eq_getElem h0)
      subst e
      have et : tear.getD i false = tear[i] := by simp [List.getD_eq_getElem?_getD, List.getElem?_eq_getElem h0]
      rw [et] at htorn
      refine ptr_of (ix_of h0 (ld_of (c := .bool) tear[i] (by rw [add_mk, Int.toNat_natCast, Nat.mul_one]; exact hc) (br_of (fun hb => ld_of (c := .slice) (a, Z.pages.length, d) (by rw [add_mk, cellH_blk b82]; rfl) (br_of (fun hlt => ?_) fun hlt => ?_)) fun hb => ?_)))
      · have hlt : m < Z.pages.length := by have := of_decide_eq_true hlt; simp only [] at this; omega
        have ht : torn = true := by rw [htorn, hb, decide_eq_true hlt]; rfl
        refine PRow.push (a' := none) (c' := 0) (p := []) hp2 hk (Im.nil ..) (by omega) fun a4 c4 h4 t4 f4 hp4 => hK2 _ _ ⟨t4, ?_, ?_, f2.trans f4⟩
        · simp [ht]
        · simp only [ht, if_true]; exact hp4
      · exact plain (by rw [htorn, hb, Bool.true_and]; have := of_decide_eq_false hlt; simp only [] at this; exact decide_eq_false (by omega))
      · exact plain (by rw [htorn, hb, Bool.false_and])
    · have h0 : tear.length ≤ i := by have := of_decide_eq_false h0; omega
      exact plain (by rw [htorn, List.getD_eq_getElem?_getD, List.getElem?_eq_none h0]; rfl)
/-- What holds ahead of each zone's turn. -/
def CrInv (k b za c : Nat) (D : Dev) (keep : List Int) (tear : List Bool) (t : Tags) (h : Heap) (s : Int) (h' : Heap) : Prop := ∃ (i : Nat) (arr' : Array Value) (t' : Tags), s = i ∧ i ≤ D.zs.length ∧ RD k t' h' b za c arr' { D with zs := upto (fun i Z => Z.crash keep tear i) i D.zs } ∧ Fr (fun p => p.1 ≠ k) t h t' h'
theorem crash_ok {k b : Nat} {t : Tags} {D : Dev} (o : DevOk D) (ka : Option Addr) (kc : Nat) (keep : List Int) (ta : Option Addr) (tc : Nat) (tear : List Bool) (h : Heap) (r : RRep k t h b D) (ins : ZnsP.Ins t h ka keep ta tear) :
    CallsH Tryz.prog 35 [ptr b, .slice ka keep.length kc, .slice ta tear.length tc] h fun v h' => v = .tuple #[] ∧ Acted k t h b (D.crash keep tear) h' := by
  refine fun_ok hm' Tryz.func35 (by kernel_rfl) (F35_eq _ _ _ _ _ _ _ _ h) ?_
  unfold F35
  obtain ⟨za, c, arr, r⟩ := r
  have hzn := o.zones
  have hk := r.own
  have own0 : ∀ p : Nat × Nat, p.1 = 0 → p.1 ≠ k := fun p hp e => hk (by rw [← e]; exact hp)
  obtain ⟨f, hf⟩ : ∃ f : Nat → Zn → Zn, f = fun i Z => Z.crash keep tear i := ⟨_, rfl⟩
  refine ⟨CrInv k b za c D keep tear t h, fun (s : Int) _ => ((D.zs.length : Int) - s).toNat, ⟨0, arr, t, rfl, Nat.zero_le _, by rw [upto_zero]; exact r, Fr.refl _ _ _⟩, ?_⟩
  rintro s j h1 ⟨i, arr', t1, rfl, hi, r1, f1⟩
  rw [← hf] at r1
  have hlen : (upto f i D.zs).length = D.zs.length := upto_len ..
  have ez := r1.cz
  simp only [hlen] at ez
  refine ld_of (c := .slice) (some ⟨za, 0, none⟩, D.zs.length, c) ez (br_of (fun hlt => ?_) (fun hlt => ?_))
  · have hlt : i < D.zs.length := by have := of_decide_eq_true hlt; simp only [] at this; omega
    have hlt' : i < (upto f i D.zs).length := by omega
    have hz : (upto f i D.zs)[i] = D.zs[i] := by
      have := upto_get f D.zs (Nat.le_refl i)
      rw [List.getElem?_eq_getElem hlt', List.getElem?_eq_getElem hlt] at this
      exact Option.some.inj this
    obtain ⟨Z, hZ⟩ : ∃ Z, Z = D.zs[i] := ⟨_, rfl⟩
    have oZ : ZnOk D.P Z := by rw [hZ]; exact o.zone _ (List.getElem_mem hlt)
    have l16 : Z.pages.length ≤ 16 := by rw [hZ]; exact o.len hlt
    have hsure := oZ.sure
    obtain ⟨a, d, hp, e0, e1, e2, _⟩ := RD.at0 r1 (z := i) hlt'
    simp only [hz, ← hZ] at hp e0 e1 e2
    refine ld_of (c := .slice) (some ⟨za, 0, none⟩, D.zs.length, c) ez (ptr_of (ix_of hlt ⟨((a, Z.pages.length, d), (Z.sure : Int), Z.fin), ⟨e0, e1, e2, trivial⟩, ?_⟩))
    refine new_stL (by kernel_rfl) fun h2 b8 n2 s2 => ?_
    have b8 : Blk h2 h1.size #[.slice a Z.pages.length d, .int .i64 (Z.sure : Int), .bool Z.fin] 78 := b8
    have f2 : Fr (fun p => p.1 ≠ k) t h (lay t1 h1.size (0, 0)) h2 := f1.trans (Fr.lay n2 _)
    have r2 : RD k (lay t1 h1.size (0, 0)) h2 b za c arr' { D with zs := upto f i D.zs } := r1.fr (S := fun _ => True) (Fr.lay n2 _) (fun _ _ => trivial) fun _ => trivial
    have hp2 : PRow k i (lay t1 h1.size (0, 0)) h2 a d Z.pages := hp.fr (S := fun _ => True) (Fr.lay n2 _) (fun _ _ => trivial) trivial
    have ins2 := ins.fr f2 own0
    have t8 : (lay t1 h1.size (0, 0) h1.size).1 = 0 := by rw [lay_ge (Nat.le_refl _)]
    refine ld_of (c := .int .i64) (Z.sure : Int) (by rw [add_mk, cellH_blk b8]; rfl) ?_
    have es8 : cellH h2 (Addr.add ⟨h1.size, 0, none⟩ 0) = some (.slice a Z.pages.length d) := by rw [add_mk, cellH_blk b8]; rfl
    refine ⟨fun (q : Int × Int) h' => h' = h2 ∧ ∃ x : Nat, q.2 = x ∧ q.1 = ((Z.sure + x : Nat) : Int) ∧ Z.sure + x ≤ Z.stay keep i, fun (q : Int × Int) _ => ((Z.pages.length : Int) - q.1).toNat, ⟨rfl, 0, rfl, rfl, (stay_le oZ keep i).1⟩, ?_⟩
    rintro ⟨q1, q2⟩ j2 h' ⟨hh, x, hq2, hq1, hx⟩
    simp only [] at hq1 hq2 ⊢
    subst h'; subst hq1; subst hq2
    have hst := stay_le oZ keep i
    have next : Z.sure + x = Z.stay keep i → (upto f i D.zs).set i ⟨Z.pages.take (Z.sure + x) ++ (if (tear.getD i false && decide (Z.sure + x < Z.pages.length)) = true then [[]] else []), (Z.pages.take (Z.sure + x) ++ (if (tear.getD i false && decide (Z.sure + x < Z.pages.length)) = true then [[]] else [])).length, Z.fin⟩ = upto f (i + 1) D.zs := by
      intro he
      have := upto_set f D.zs (List.getElem?_eq_getElem hlt)
      rw [← this, he, ← hZ, hf]; rfl
    refine cut_q (ts := []) (fun _ h' => h' = h2 ∧ Z.sure + x < Z.stay keep i) ?_ ?_
    · rintro _ h' ⟨hh, hlt2⟩ _; subst h'
      rw [wr64 (by omega) (by omega), wr64 (by omega) (by omega)]
      exact ⟨⟨rfl, x + 1, (by first | omega | (dsimp only; omega) | (simp only []; omega)), (by first | omega | (dsimp only; omega) | (simp only []; omega)), by omega⟩, (by first | omega | (dsimp only; omega) | (simp only []; omega))⟩
    · intro K hK
      have fin : Z.sure + x = Z.stay keep i → ∀ (h' : Heap) (t' : Tags) (arr2 : Array Value), RD k t' h' b za c arr2 { ({ D with zs := upto f i D.zs } : Dev) with zs := (upto f i D.zs).set i ⟨Z.pages.take (Z.sure + x) ++ (if (tear.getD i false && decide (Z.sure + x < Z.pages.length)) = true then [[]] else []), (Z.pages.take (Z.sure + x) ++ (if (tear.getD i false && decide (Z.sure + x < Z.pages.length)) = true then [[]] else [])).length, Z.fin⟩ } → Fr (fun p => p.1 ≠ k) (lay t1 h1.size (0, 0)) h2 t' h' →
          CrInv k b za c D keep tear t h ((i + 1 : Nat) : Int) h' ∧ ((D.zs.length : Int) - ((i + 1 : Nat) : Int)).toNat < ((D.zs.length : Int) - (i : Int)).toNat := by
        intro he h' t' arr2 r' f'
        rw [next he, hf] at r'
        exact ⟨⟨i + 1, arr2, t', rfl, hlt, r', f2.trans f'⟩, by omega⟩
      refine br_of (fun h0 => ?_) fun h0 => ?_
      · have h0 : i < keep.length := by have := of_decide_eq_true h0; omega
        have es : Z.stay keep i = Z.sure + min keep[i].toNat (Z.pages.length - Z.sure) := by unfold Zn.stay; rw [List.getElem?_eq_getElem h0]
        refine ix_ld ins2.ak h0 h0 (br_of (fun hc => ld_of (c := .slice) (a, Z.pages.length, d) es8 (br_of (fun hc2 => hK () _ ⟨rfl, ?_⟩) fun hc2 => ?_)) fun hc => ?_)
        · have hc := of_decide_eq_true hc; have hc2 := of_decide_eq_true hc2; simp only [] at hc2; omega
        · have hc2 := of_decide_eq_false hc2; simp only [] at hc2
          exact crash_tail (K1 := fun s' h'' => CrInv k b za c D keep tear t h s' h'' ∧ ((D.zs.length : Int) - s').toNat < ((D.zs.length : Int) - (i : Int)).toNat) r2 hlt' l16 (by omega) hp2 b8 t8 rfl ins2.bt ins2.tt (by omega) (fin (by omega))
        · have hc := of_decide_eq_false hc
          exact crash_tail (K1 := fun s' h'' => CrInv k b za c D keep tear t h s' h'' ∧ ((D.zs.length : Int) - s').toNat < ((D.zs.length : Int) - (i : Int)).toNat) r2 hlt' l16 (by omega) hp2 b8 t8 rfl ins2.bt ins2.tt (by omega) (fin (by omega))
      · have h0 : keep.length ≤ i := by have := of_decide_eq_false h0; omega
        have es : Z.stay keep i = Z.sure := by unfold Zn.stay; rw [List.getElem?_eq_none h0]
        exact crash_tail (K1 := fun s' h'' => CrInv k b za c D keep tear t h s' h'' ∧ ((D.zs.length : Int) - s').toNat < ((D.zs.length : Int) - (i : Int)).toNat) r2 hlt' l16 (by omega) hp2 b8 t8 rfl ins2.bt ins2.tt (by omega) (fin (by omega))
  · have hi : i = D.zs.length := by have := of_decide_eq_false hlt; simp only [] at this; omega
    subst hi
    rw [upto_full, hf] at r1
    rw [add_mk]
    refine st_blk r1.blk (show 0 + 2 < 5 by omega) fun h2 b2 o2 => ?_
    have r2 : RD k t1 h2 b za c arr' { D with zs := D.zs.mapIdx (fun i Z => Z.crash keep tear i), fuse := -1 } := r1.setD rfl b2 o2.upd
    rw [add_mk]
    refine st_blk r2.blk (show 0 + 4 < 5 by omega) fun h3 b3 o3 => ?_
    have r3 : RD k t1 h3 b za c arr' (D.crash keep tear) := r2.setD rfl b3 o3.upd
    exact ⟨rfl, t1, ⟨za, c, arr', r3⟩, f1.trans (Fr.upd (o2.upd.trans o3.upd) fun hn => hn (by rw [r1.tagB]))⟩
/- A NEW DEVICE. -/
theorem new_no (n p : Int) (h : Heap) (hn : ¬ ((1 ≤ n ∧ n ≤ 24) ∧ 1 ≤ p ∧ p ≤ 16)) : CallsH Tryz.prog 8 [.int .i64 n, .int .i64 p] h fun v h' => v = .tuple #[.pointer none, .int .i64 1] ∧ h' = h := by
  refine fun_ok hm' Tryz.func8 (by kernel_rfl) (F8_eq _ _ _ h) ?_
  unfold F8
  refine cut_q (ts := []) (fun _ _ => False) (fun _ _ hf _ => hf.elim) ?_
  intro K hK
  refine br_of (fun _ => ⟨rfl, rfl⟩) fun h1 => br_of (fun _ => ⟨rfl, rfl⟩) fun h2 => br_of (fun _ => ⟨rfl, rfl⟩) fun h3 => br_of (fun _ => ⟨rfl, rfl⟩) fun h4 => ?_
  have h1 := of_decide_eq_false h1; have h2 := of_decide_eq_false h2; have h3 := of_decide_eq_false h3; have h4 := of_decide_eq_false h4
  exact (hn ⟨⟨by omega, by omega⟩, by omega, by omega⟩).elim
theorem ap131 : apB Tryz.prog 61 78 3 40 = true := by kernel_rfl
def bareV : List Value := [.slice none 0 0, .int .i64 0, .bool false]
def bareL (i : Nat) : List Value := (List.replicate i bareV).flatten
theorem bareL_len (i : Nat) : (bareL i).length = i * 3 := by
  unfold bareL; induction i with
  | zero => rfl
  | succ i ih => rw [List.replicate_succ, List.flatten_cons, List.length_append, ih]; simp [bareV]; omega
theorem bareL_succ (i : Nat) : bareL (i + 1) = bareL i ++ bareV := by
  unfold bareL; rw [List.replicate_succ', List.flatten_append]; simp
theorem bareL_get {i z j : Nat} (hz : z < i) (hj : j < 3) : (bareL i)[z * 3 + j]? = bareV[j]? := by
  induction i with
  | zero => omega
  | succ i ih =>
    rw [bareL_succ]
    by_cases h : z < i
    · rw [List.getElem?_append_left (by rw [bareL_len]; omega)]; exact ih h
    · rw [List.getElem?_append_right (by rw [bareL_len]; omega), bareL_len]; congr 1; omega
theorem new_ok (k : Nat) (hk : k ≠ 0) (t : Tags) (n p : Nat) (h : Heap) (hn : 1 ≤ n ∧ n ≤ 24) (hp : 1 ≤ p ∧ p ≤ 16) : CallsH Tryz.prog 8 [.int .i64 (n : Int), .int .i64 (p : Int)] h fun v h' => ∃ b, v = .tuple #[ptr b, .int .i64 0] ∧ ZnsP.NewDev LoR k t h b (Dev.empty n p) h' := by
  refine fun_ok hm' Tryz.func8 (by kernel_rfl) (F8_eq _ _ _ h) ?_
  unfold F8
  refine cut_q (ts := []) (fun _ h' => h' = h) ?_ ?_
  rotate_left
  · intro K hK
    exact br_f (decide_eq_false (by omega)) (br_f (decide_eq_false (by omega)) (br_f (decide_eq_false (by omega)) (br_f (decide_eq_false (by omega)) (hK () _ rfl))))
  rintro _ h' hh _; subst h'
  refine new_of fun h1 b1 n1 s1 => ?_
  refine ⟨fun (s : Int) h' => ∃ (i : Nat) (a : Option Addr) (c : Nat), s = i ∧ i ≤ n ∧ OwnH h' 0 78 3 a i c (bareL i) ∧ Blk h' h.size #[.slice a i c, .int .i64 (p : Int), .int .i64 (-1), .int .i64 0, .bool false] 63 ∧ New h h' ∧ (∀ g, blkOf a = some g → h1.size ≤ g), fun (s : Int) _ => ((n : Int) - s).toNat, ⟨0, none, 0, rfl, Nat.zero_le _, OwnH.nil .., b1, n1, fun g hg => by cases hg⟩, ?_⟩
  rintro s j h2 ⟨i, a, c, rfl, hi, ow, b2, n2, hge⟩
  refine br_of (fun hlt => ?_) (fun hlt => ?_)
  · have hlt : i < n := by have := of_decide_eq_true hlt; omega
    refine ld_of (c := .slice) (a, i, c) (by rw [add_mk, cellH_blk b2]; rfl) (new_of fun h3 b3 n3 s3 => ?_)
    have ow3 := ow.grow n3
    have sz2 := b2.lt
    refine ap_row ap131 (.inl ow3) (m := 1) bareV rfl ?_ (by simp [bareV, Value.oneCell']) (by simp [maxLen]; omega) (by omega) fun a4 c4 h4 _ w4 ow4 => ?_
    · intro jj u hu
      rw [add_mk, cellH_blk b3, Nat.zero_add]
      have hjj : jj < 3 := by have := (List.getElem?_eq_some_iff.1 hu).1; simp [bareV] at this; omega
      match jj, hjj with
      | 0, _ => simpa [bareV] using hu
      | 1, _ => simpa [bareV] using hu
      | 2, _ => simpa [bareV] using hu
    have ow4 := ow4 (by omega)
    rw [← bareL_succ] at ow4
    have u := w4.upd
    have hne : some h.size ≠ blkOf a := fun e => by have := hge _ e.symm; omega
    have b4 : Blk h4 h.size _ _ := (u.same h.size (b2.new n3).lt hne).trans (b2.new n3)
    rw [add_mk]
    refine st_blk b4 (show 0 + 0 < 5 by omega) fun h5 b5 o5 => ?_
    rw [wr64 (by omega) (by omega)]
    have sz4 := u.size; have sz3 := n3.size
    have hge4 : ∀ g, blkOf a4 = some g → h1.size ≤ g := fun g hg => by
      rcases w4.at_ with e | ⟨g', e, e1, _⟩
      · exact hge g (by rw [← e]; exact hg)
      · rw [e] at hg; injection hg with hg; have := n2.size; have := n1.size; omega
    refine ⟨⟨i + 1, a4, c4, rfl, hlt, ow4.upd o5.upd (fun e => by have := hge4 _ e; omega), b5, ?_, hge4⟩, (by first | omega | (dsimp only; omega) | (simp only []; omega))⟩
    refine ⟨by rw [o5.size]; have := n2.size; omega, fun g hg => ?_⟩
    rw [o5.same g (by omega), u.same g (by have := n2.size; omega) (fun e => by have := hge _ e.symm; omega), n3.same g (by have := n2.size; omega), n2.same g hg]
  · have hin : i = n := by have := of_decide_eq_false hlt; omega
    subst hin
    rcases ow.row with ⟨_, ⟨_, h0, _⟩ | ⟨g, cur, rfl, _, bg, hnc, hcs, htk⟩⟩
    · omega
    have hg1 := hge g rfl
    have hcm : c ≤ maxLen := by
      rcases ow.2 with ⟨e1, _⟩ | ⟨_, cap, _, e1, _, _, _, h1, _⟩
      · injection e1 with e1 _ _; cases e1
      · injection e1 with _ _ e1; subst e1; exact h1
    refine ⟨h.size, rfl, n2, Nat.le_refl _, fun x => if x < h.size then t x else if x = g then (k, 1) else (k, 0), fun x hx => if_pos hx, g, c, cur, ?_⟩
    have hl : (Dev.empty i p).zs.length = i := by simp [Dev.empty]
    refine ⟨hk, ?_, ?_, bg, ?_, hcs, by rw [hl]; exact hnc, hcm, fun z Z hz => ?_⟩
    · rw [hl]; exact b2
    · show (if h.size < h.size then t h.size else if h.size = g then (k, 1) else (k, 0)) = (k, 0)
      rw [if_neg (by omega), if_neg (by omega)]
    · show (if g < h.size then t g else if g = g then (k, 1) else (k, 0)) = (k, 1)
      rw [if_neg (by omega), if_pos rfl]
    · have hzn : z < i := by have := (List.getElem?_eq_some_iff.1 hz).1; omega
      have : Z = Zn.bare := List.eq_of_mem_replicate (List.mem_of_getElem? hz)
      subst this
      refine ⟨none, 0, fun j hj => ?_, PRow.nil _ _ _ _⟩
      have := bareL_get hzn hj
      rw [← htk, List.getElem?_take_of_lt (by omega)] at this
      rw [← Array.getElem?_toList, this]; rfl
end Go.Proofs.YtgohecjnjadnpaaGreatDoor.ZnsR
