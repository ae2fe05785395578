/-
  Texts of this claim, one behind the other: ZnsP, WMed, WErrE, WFaultE, ErrE, Err2E, Err3E, Err4E, Med, WBody, Body, WIs, Err4I, WDir, DirW, MapB, DirA, DirL, DirP, DirQ, WL17, L17A, WR2, R2, L17B.
-/
import Derived.Test.YthimfpkkdhpceaaDoorP2
import Derived.Test.YthimfpkkdhpceaaDoorProg
import Derived.ChangeKeysEq
import Derived.MapKept
/-
  The contracts of package zns.
-/
namespace Go.Proofs.YthimfpkkdhpceaaDoor.ZnsP
open Go.Pl Go.Proofs.YthimfpkkdhpceaaDoor.W Go.Proofs.YthimfpkkdhpceaaDoor.Byts Go.Proofs.YthimfpkkdhpceaaDoor.As Go.Proofs.YthimfpkkdhpceaaDoor.Upto Go.Proofs.YthimfpkkdhpceaaDoor.Zns
abbrev PD := DR LoP
abbrev PRep := DRep LoP
abbrev ptr (b : Nat) : Value := .pointer (some ⟨b, 0, none⟩)
theorem there_ok {k b : Nat} {t : Tags} {D : Dev} (n : Int) (h : Heap) (r : PRep k t h b D) : CallsH Tryd.prog 97 [ptr b, .int .i64 n] h fun v h' => v = .bool (D.there n) ∧ h' = h := by
  refine fun_ok hm' Tryd.func97 (by kernel_rfl) (F97_eq _ _ _ h) ?_
  unfold F97
  obtain ⟨za, c, arr, r⟩ := r
  refine br_of (fun h0 => ld_of (c := .slice) (some ⟨za, 0, none⟩, D.zs.length, c) r.cz ⟨?_, rfl⟩) fun h0 => ⟨?_, rfl⟩
  · have h0 := of_decide_eq_true h0
    unfold Dev.there; congr 1; simp; omega
  · have h0 := of_decide_eq_false h0
    unfold Dev.there; congr 1; symm; simp; omega
theorem zeroZ : zeroC Tryd.prog 118 = #[.int .i64 0, .bool false, .slice none 0 0] := by kernel_rfl
/-- A zone that is pointed at. -/
def AtZ (k : Nat) (t : Tags) (h : Heap) (p : Addr) (Z : Zn) : Prop := ∃ a c z, cellH h ((p.add 0).add 0) = some (.int .i64 (Z.sure : Int)) ∧ cellH h ((p.add 0).add 1) = some (.bool Z.fin) ∧ cellH h (p.add 2) = some (.slice a Z.pages.length c) ∧ PRow k z t h a c Z.pages
theorem at_ok {k b : Nat} {t : Tags} {D : Dev} (n : Int) (h : Heap) (r : PRep k t h b D) : CallsH Tryd.prog 65 [ptr b, .int .i64 n] h fun v h' => ∃ p, v = .pointer (some p) ∧ New h h' ∧ AtZ k t h' p (D.at_ n) := by
  refine fun_ok hm' Tryd.func65 (by kernel_rfl) (F65_eq _ _ _ h) ?_
  unfold F65
  refine call_of (there_ok n h r) ?_
  rintro v h' ⟨rfl, hh⟩; subst h'
  refine ⟨D.there n, rfl, ?_⟩
  cases ht : D.there n with
  | false =>
    refine br_t rfl (new_of fun h1 b1 n1 s1 => ⟨⟨h.size, 0, none⟩, rfl, n1, none, 0, 0, ?_, ?_, ?_, ?_⟩)
    · rw [at_none ht, add_mk, add_mk, cellH_blk b1]; rfl
    · rw [at_none ht, add_mk, add_mk, cellH_blk b1]; rfl
    · rw [at_none ht, add_mk, cellH_blk b1]; rfl
    · rw [at_none ht]; exact PRow.nil _ _ _ _
  | true =>
    obtain ⟨z, rfl, hz⟩ := there_nat ht
    obtain ⟨za, c, arr, r⟩ := r
    obtain ⟨a, d, hp, c0, c1, c2⟩ := r.zP hz
    refine br_f rfl (ld_of (c := .slice) (some ⟨za, 0, none⟩, D.zs.length, c) r.cz (ptr_of (ix_of hz ⟨⟨za, z * 3, none⟩, by rw [add_mk, Int.toNat_natCast, Nat.zero_add], New.refl h, a, d, z, ?_, ?_, ?_, ?_⟩)))
    · rw [at_of hz, add_mk, add_mk]; exact r.cell (j := 0) c0 _ rfl
    · rw [at_of hz, add_mk, add_mk]; exact r.cell c1 _ rfl
    · rw [at_of hz, add_mk]; exact r.cell c2 _ rfl
    · rw [at_of hz]; exact hp
theorem point_ok {k b : Nat} {t : Tags} {D : Dev} (n : Int) (h : Heap) (r : PRep k t h b D) : CallsH Tryd.prog 28 [ptr b, .int .i64 n] h fun v h' => v = .int .i64 (D.point n : Int) ∧ New h h' := by
  refine fun_ok hm' Tryd.func28 (by kernel_rfl) (F28_eq _ _ _ h) ?_
  unfold F28
  refine call_of (at_ok n h r) ?_
  rintro v h1 ⟨p, rfl, n1, a, c, z, c0, c1, c2, _⟩
  exact ⟨some p, rfl, ptr_of (ld_of (c := .slice) (a, (D.at_ n).pages.length, c) c2 ⟨rfl, n1⟩)⟩
theorem state_ok {k b : Nat} {t : Tags} {D : Dev} (n : Int) (h : Heap) (r : PRep k t h b D) : CallsH Tryd.prog 101 [ptr b, .int .i64 n] h fun v h' => v = .int .i64 (D.state n) ∧ New h h' := by
  refine fun_ok hm' Tryd.func101 (by kernel_rfl) (F101_eq _ _ _ h) ?_
  unfold F101
  refine call_of (at_ok n h r) ?_
  rintro v h1 ⟨p, rfl, n1, a, c, z, c0, c1, c2, _⟩
  obtain ⟨za, d, arr, r1⟩ := r.new n1
  refine ⟨some p, rfl, ptr_of (ld_of (c := .slice) (a, (D.at_ n).pages.length, c) c2 (br_of (fun h0 => ⟨?_, n1⟩) fun h0 => ptr_of (ld_of (c := .bool) (D.at_ n).fin c1 (br_of (fun hf => ⟨?_, n1⟩) fun hf => ptr_of (ld_of (c := .slice) (a, (D.at_ n).pages.length, c) c2 (ld_of (c := .int .i64) (D.P : Int) r1.cP (br_of (fun hp => ⟨?_, n1⟩) fun hp => ⟨?_, n1⟩)))))))⟩
  · have h0 : (D.at_ n).pages.length = 0 := by simp only [beq_iff_eq] at h0; omega
    unfold Dev.state; rw [if_pos h0]
  · have h0 : ¬ (D.at_ n).pages.length = 0 := by simp only [beq_eq_false_iff_ne, ne_eq] at h0; omega
    unfold Dev.state; rw [if_neg h0, if_pos (.inl hf)]
  · have h0 : ¬ (D.at_ n).pages.length = 0 := by simp only [beq_eq_false_iff_ne, ne_eq] at h0; omega
    have hp : (D.at_ n).pages.length = D.P := by simp only [beq_iff_eq] at hp; omega
    unfold Dev.state; rw [if_neg h0, if_pos (.inr hp)]
  · have h0 : ¬ (D.at_ n).pages.length = 0 := by simp only [beq_eq_false_iff_ne, ne_eq] at h0; omega
    have hp : ¬ (D.at_ n).pages.length = D.P := by simp only [beq_eq_false_iff_ne, ne_eq] at hp; omega
    unfold Dev.state; rw [if_neg h0, if_neg (by simp [hf, hp])]
theorem zones_ok {k b : Nat} {t : Tags} {D : Dev} (h : Heap) (r : PRep k t h b D) : CallsH Tryd.prog 77 [ptr b] h fun v h' => v = .int .i64 (D.zs.length : Int) ∧ h' = h := by
  refine fun_ok hm' Tryd.func77 (by kernel_rfl) (F77_eq _ _ h) ?_
  unfold F77
  obtain ⟨za, c, arr, r⟩ := r
  exact ld_of (c := .slice) (some ⟨za, 0, none⟩, D.zs.length, c) r.cz ⟨rfl, rfl⟩
theorem pages_ok {k b : Nat} {t : Tags} {D : Dev} (h : Heap) (r : PRep k t h b D) : CallsH Tryd.prog 78 [ptr b] h fun v h' => v = .int .i64 (D.P : Int) ∧ h' = h := by
  refine fun_ok hm' Tryd.func78 (by kernel_rfl) (F78_eq _ _ h) ?_
  unfold F78
  obtain ⟨za, c, arr, r⟩ := r
  exact ld_of (c := .int .i64) (D.P : Int) r.cP ⟨rfl, rfl⟩
theorem down_ok {k b : Nat} {t : Tags} {D : Dev} (h : Heap) (r : PRep k t h b D) : CallsH Tryd.prog 81 [ptr b] h fun v h' => v = .bool D.down ∧ h' = h := by
  refine fun_ok hm' Tryd.func81 (by kernel_rfl) (F81_eq _ _ h) ?_
  unfold F81
  obtain ⟨za, c, arr, r⟩ := r
  exact ld_of (c := .bool) D.down r.cd ⟨rfl, rfl⟩
theorem ops_ok {k b : Nat} {t : Tags} {D : Dev} (h : Heap) (r : PRep k t h b D) : CallsH Tryd.prog 33 [ptr b] h fun v h' => v = .int .i64 D.ops ∧ h' = h := by
  refine fun_ok hm' Tryd.func33 (by kernel_rfl) (F33_eq _ _ h) ?_
  unfold F33
  obtain ⟨za, c, arr, r⟩ := r
  exact ld_of (c := .int .i64) D.ops r.co ⟨rfl, rfl⟩
/-- A call that isn't done. -/
theorem doing_no_ok {k b : Nat} {t : Tags} {D : Dev} (e : Int) (f : Value) (h : Heap) (r : PRep k t h b D) (hn : (D.doing e).2 ≠ 0) :
    CallsH Tryd.prog 102 [ptr b, .int .i64 e, f] h fun v h' => v = errV (D.doing e).2 ∧ PRep k t h' b (D.doing e).1 ∧ Upd b h h' := by
  refine fun_ok hm' Tryd.func102 (by kernel_rfl) (F102_eq _ _ _ _ h) ?_
  unfold F102
  obtain ⟨za, c, arr, r⟩ := r
  refine ld_of (c := .bool) D.down r.cd (br_of (fun hd => ?_) fun hd => br_of (fun he => ?_) fun he => ld_of (c := .int .i64) D.fuse r.cf (br_of (fun hf => ?_) fun hf => ?_))
  · have e1 : D.doing e = (D, 7) := by unfold Dev.doing; rw [if_pos hd]
    rw [e1]; exact ⟨rfl, ⟨za, c, arr, r⟩, Upd.refl _ _⟩
  · have he : e ≠ 0 := by simpa using he
    have e1 : D.doing e = (D, e) := by unfold Dev.doing; rw [if_neg (by simp [hd]), if_pos he]
    rw [e1]; exact ⟨(errV_ne he).symm, ⟨za, c, arr, r⟩, Upd.refl _ _⟩
  · have he : e = 0 := by simpa using he
    have hf : D.fuse = 0 := by simpa using hf
    have e1 : D.doing e = ({ D with down := true }, 7) := by unfold Dev.doing; rw [if_neg (by simp [hd]), if_neg (by simp [he]), if_pos hf]
    rw [e1, add_mk]
    exact st_blk r.blk (show 0 + 4 < 5 by omega) fun h1 b1 o1 => ⟨rfl, ⟨za, c, arr, r.setD rfl b1 o1.upd⟩, o1.upd⟩
  · exfalso; apply hn
    have he : e = 0 := by simpa using he
    have hf : D.fuse ≠ 0 := by simpa using hf
    unfold Dev.doing; rw [if_neg (by simp [hd]), if_neg (by simp [he]), if_neg hf]
/-- A call that is done: what does it, is run. -/
theorem doing_yes {k b za c : Nat} {t : Tags} {arr : Array Value} {D : Dev} (o : DevOk D) (e : Int) (g : FuncId) (first cap : Array Value) (h : Heap) (r : PD k t h b za c arr D) (h0 : (D.doing e).2 = 0) {R : Value → Heap → Prop}
    (hc : ∀ h', PD k t h' b za c arr (D.doing e).1 → Upd b h h' → h'.size = h.size → CallsH Tryd.prog g (first.toList ++ [] ++ cap.toList) h' R) :
    CallsH Tryd.prog 102 [ptr b, .int .i64 e, .func (.func g) first cap] h fun v h' => v = .nilIface ∧ ∃ u, R u h' := by
  obtain ⟨rfl, hd, hf, e1⟩ := doing_ok h0
  refine fun_ok hm' Tryd.func102 (by kernel_rfl) (F102_eq _ _ _ _ h) ?_
  unfold F102
  have ho := o.fuse
  refine ld_of (c := .bool) D.down r.cd (br_f hd (br_f rfl (ld_of (c := .int .i64) D.fuse r.cf (br_f (by simpa using hf) (ld_of (c := .int .i64) D.fuse r.cf ?_)))))
  rw [mm2_max, wr64 (by omega) (by omega), add_mk]
  refine st_blk r.blk (show 0 + 2 < 5 by omega) fun h1 b1 o1 => ?_
  have r1 : PD k t h1 b za c arr { D with fuse := max (D.fuse - 1) (-1) } := r.setD rfl b1 o1.upd
  refine ld_of (c := .int .i64) D.ops r1.co ?_
  rw [add_mk]
  refine st_blk r1.blk (show 0 + 3 < 5 by omega) fun h2 b2 o2 => ?_
  have r2 : PD k t h2 b za c arr (D.doing 0).1 := by rw [e1]; exact r1.setD rfl b2 o2.upd
  refine callW_of (hc h2 r2 (o1.upd.trans o2.upd) (by rw [o2.size, o1.size])) ?_
  rintro v h3 hR
  exact ⟨v, rfl, rfl, v, hR⟩
theorem appendF_ok {k b za c z : Nat} {t : Tags} {arr : Array Value} {D : Dev} (o : DevOk D) (p1 p2 p3 : Nat) (T1 T2 T3 : TypeId) (ba : Option Addr) (bc : Nat) (bs : List Int) (h : Heap) (r : PD k t h b za c arr D) (hz : z < D.zs.length) (hl : bs.length ≤ 1000)
    (b1 : Blk h p1 #[ptr b] T1) (b2 : Blk h p2 #[.int .i64 (z : Int)] T2) (b3 : Blk h p3 #[.slice ba bs.length bc] T3) (ht1 : (t p1).1 = 0) (ht2 : (t p2).1 = 0) (ar : Ar .u8 h ba bs) :
    CallsH Tryd.prog 103 [ptr p1, ptr p2, ptr p3] h fun v h' => v = .tuple #[] ∧ ∃ t', PRep k t' h' b (D.setZ (z : Int) { D.at_ (z : Int) with pages := (D.at_ (z : Int)).pages ++ [bs] }) ∧ Fr (fun p => p.1 ≠ k) t h t' h' := by
  refine fun_ok hm' Tryd.func103 (by kernel_rfl) (F103_eq _ _ _ _ h) ?_
  unfold F103
  obtain ⟨a, d, hp, c0, c1, c2⟩ := r.zP hz
  have hk := r.own
  have e1 : cellH h ⟨p1, 0, none⟩ = some (ptr b) := by rw [cellH_blk b1]; rfl
  have e2 : cellH h ⟨p2, 0, none⟩ = some (.int .i64 (z : Int)) := by rw [cellH_blk b2]; rfl
  have e3 : cellH h ⟨p3, 0, none⟩ = some (.slice ba bs.length bc) := by rw [cellH_blk b3]; rfl
  refine ld_of (c := .ptr) (some ⟨b, 0, none⟩) e1 (ptr_of (ld_of (c := .slice) (some ⟨za, 0, none⟩, D.zs.length, c) r.cz (ld_of (c := .int .i64) (z : Int) e2 (ld_of (c := .ptr) (some ⟨b, 0, none⟩) e1 (ptr_of (ld_of (c := .slice) (some ⟨za, 0, none⟩, D.zs.length, c) r.cz (ld_of (c := .int .i64) (z : Int) e2 (ptr_of (ix_of hz ?_)))))))))
  refine ld_of (c := .slice) (a, D.zs[z].pages.length, d) (by rw [add_mk, add_mk, Int.toNat_natCast]; exact r.cell c2 _ (by omega)) (ld_of (c := .slice) (ba, bs.length, bc) e3 (call_of (Head.clone_ok ba bc bs _ rfl h ar (by omega)) ?_))
  rintro v h1 ⟨a1, k1, rfl, g1⟩
  refine ⟨(a1, bs.length, k1), rfl, ?_, g1.new.ext⟩
  have s1 : Fr (fun p => p.1 ≠ k) t h (lay t h.size (0, 0)) h1 := Fr.lay g1.new _
  have r1 : PD k (lay t h.size (0, 0)) h1 b za c arr D := r.fr (S := fun _ => True) (Fr.lay g1.new _) (fun _ _ => trivial) fun _ => trivial
  have hp1 : PRow k z (lay t h.size (0, 0)) h1 a d D.zs[z].pages := hp.fr (S := fun _ => True) (Fr.lay g1.new _) (fun _ _ => trivial) trivial
  refine PRow.push hp1 hk (Im.got g1 (0, 0) rfl) ⟨g1.row.le, g1.row.capMax, fun e => by subst e; exact g1.row.none0.2.1⟩ (by have := o.len hz; omega) fun a2 c2' h2 t2 f2 hp2 => ?_
  have hS : ∀ q : Nat × Nat, q.1 = 0 → q ≠ (k, 2 + z) := fun q hq e => by subst e; exact hk hq
  have f02 : Fr (fun q => q ≠ (k, 2 + z)) t h t2 h2 := (Fr.lay g1.new _).trans f2
  have zb : ∀ p : Nat, (t p).1 = 0 → t p ≠ (k, 2 + z) := fun p hp => hS _ hp
  have b1' := f02.blk b1 (zb _ ht1); have b2' := f02.blk b2 (zb _ ht2)
  have bD := f02.blk r.blk (by rw [r.tagB]; exact tagne (by omega))
  have bZ := f02.blk r.zblk (by rw [r.tagZ]; exact tagne (by omega))
  refine ⟨by rw [cellH_blk b2']; rfl, by rw [add_mk, cellH_blk bD]; rfl, by rw [cellH_blk b1']; rfl, ptr_of (ix_of hz ?_)⟩
  have hsz := r.size; have hle := r.le
  rw [add_mk, add_mk, Int.toNat_natCast, Nat.zero_add]
  refine st_blk bZ (by omega) fun h3 b3' o3 => ?_
  obtain ⟨q1, q2, q3, q4⟩ := set3 (arr := arr) (z := z) (o := 2) (n := z * 3 + 2) (v := .slice a2 (D.zs[z].pages.length + 1) c2') (by omega) (by omega) rfl
  have f23 : Fr (fun q => q ≠ (k, 1)) t2 h2 t2 h3 := Fr.upd o3.upd fun hn => hn (by rw [f02.tags za r.zblk.lt]; exact r.tagZ)
  have hS' : ∀ q : Nat × Nat, q.1 = 0 → q ≠ (k, 1) := fun q hq e => by subst e; exact hk hq
  have f03 : Fr (fun q => q ≠ (k, 1) ∧ q ≠ (k, 2 + z)) t h t2 h3 := (f02.mono fun _ hq => hq.2).trans (f23.mono fun _ hq => hq.1)
  refine ⟨rfl, t2, ⟨za, c, arr.setIfInBounds (z * 3 + 2) (.slice a2 (D.zs[z].pages.length + 1) c2'), ?_⟩, f03.mono fun q hq => ⟨fun e => hq (by rw [e]), fun e => hq (by rw [e])⟩⟩
  have := r.put (Z := { D.zs[z] with pages := D.zs[z].pages ++ [bs] }) f03 (fun q hq => ⟨hS' q hq, hS q hq⟩) ⟨tagne (by omega), tagne (by omega)⟩ (fun j hj => ⟨tagne (by omega), tagne (by omega)⟩) b3' q1 q2 ⟨a2, c2', fun j hj => ?_, ?_⟩
  · have e : D.setZ (z : Int) { D.at_ (z : Int) with pages := (D.at_ (z : Int)).pages ++ [bs] } = { D with zs := D.zs.set z { D.zs[z] with pages := D.zs[z].pages ++ [bs] } } := by
      rw [at_of hz]; unfold Dev.setZ; rw [Int.toNat_natCast]
    rw [e]; exact this
  · match j, hj with
    | 0, _ => rw [q4 0 (by omega) (by omega)]; exact c0
    | 1, _ => rw [q4 1 (by omega) (by omega)]; exact c1
    | 2, _ => rw [q3]; simp [LoP]
  · exact hp2.fr f23 hS' (tagne (by omega))
/-- What a call answers: an error, or none; the device behind it, its blocks alone turned. -/
def Acted (k : Nat) (t : Tags) (h : Heap) (b : Nat) (D' : Dev) (h' : Heap) : Prop := ∃ t', PRep k t' h' b D' ∧ Fr (fun p => p.1 ≠ k) t h t' h'
theorem Acted.of_upd {k b : Nat} {t : Tags} {h h' : Heap} {D' : Dev} {D : Dev} (r0 : PRep k t h b D) (r : PRep k t h' b D') (u : Upd b h h') : Acted k t h b D' h' := by
  obtain ⟨za, c, arr, r0⟩ := r0
  exact ⟨t, r, Fr.upd u fun hn => hn (by rw [r0.tagB])⟩
theorem Acted.before {k b : Nat} {t : Tags} {h0 h h' : Heap} {D' : Dev} (a : Acted k (lay t h0.size (0, 0)) h b D' h') (n : New h0 h) : Acted k t h0 b D' h' := by
  obtain ⟨t', r, f⟩ := a
  exact ⟨t', r, (Fr.lay n (0, 0)).trans f⟩
theorem PRep.lay {k b : Nat} {t : Tags} {h h' : Heap} {D : Dev} (r : PRep k t h b D) (n : New h h') : PRep k (Pl.lay t h.size (0, 0)) h' b D := r.fr (S := fun _ => True) (Fr.lay n _) (fun _ _ => trivial) fun _ => trivial
theorem append_ok {k b : Nat} {t : Tags} {D : Dev} (o : DevOk D) (n : Int) (ba : Option Addr) (bc : Nat) (bs : List Int) (h : Heap) (r : PRep k t h b D) (hl : bs.length ≤ 1000) (im : Im .u8 t h ba bs) :
    CallsH Tryd.prog 69 [ptr b, .int .i64 n, .slice ba bs.length bc] h fun v h' => v = .tuple #[.int .i64 ((D.append n bs).2.1), errV (D.append n bs).2.2] ∧ Acted k t h b (D.append n bs).1 h' := by
  refine fun_ok hm' Tryd.func69 (by kernel_rfl) (F69_eq _ _ _ _ _ _ h) ?_
  unfold F69
  refine new_of fun h1 b1 n1 s1 => new_of fun h2 b2 n2 s2 => new_of fun h3 b3 n3 s3 => ?_
  have n03 := (n1.trans n2).trans n3
  have b1 := (b1.new n2).new n3
  have b2 := b2.new n3
  have r3 := r.lay n03
  have e1 : ∀ {h' : Heap}, New h3 h' → cellH h' ⟨h.size, 0, none⟩ = some (ptr b) := fun n => by rw [cellH_blk (b1.new n)]; rfl
  have e2 : ∀ {h' : Heap}, New h3 h' → cellH h' ⟨h1.size, 0, none⟩ = some (.int .i64 n) := fun n => by rw [cellH_blk (b2.new n)]; rfl
  have e3 : ∀ {h' : Heap}, New h3 h' → cellH h' ⟨h2.size, 0, none⟩ = some (.slice ba bs.length bc) := fun n => by rw [cellH_blk (b3.new n)]; rfl
  refine cut_q (ts := [.sc (.int .i64)]) (fun (e : Int) h' => e = D.appendE n bs ∧ New h3 h') ?_ ?_
  rotate_left
  · intro K hK
    refine cut_q (ts := [.sc .bool]) (fun (s : Bool) h' => s = decide (D.there n = false ∨ bs.length ≠ 33) ∧ h' = h3) ?_ ?_
    · rintro s h' ⟨rfl, hh⟩ _; subst h'
      refine br_of (fun hs => hK _ _ ⟨?_, New.refl _⟩) fun hs => ?_
      · unfold Dev.appendE; rw [if_pos (of_decide_eq_true hs)]
      have hs := of_decide_eq_false hs
      refine ld_of (c := .ptr) (some ⟨b, 0, none⟩) (e1 (New.refl _)) (ld_of (c := .int .i64) n (e2 (New.refl _)) (call_of (state_ok n h3 r3) ?_))
      rintro v h4 ⟨rfl, n4⟩
      refine ⟨D.state n, rfl, br_of (fun h5 => hK _ _ ⟨?_, n4⟩) fun h5 => hK _ _ ⟨?_, n4⟩⟩
      · unfold Dev.appendE; rw [if_neg hs, if_pos (by simpa using h5)]
      · unfold Dev.appendE; rw [if_neg hs, if_neg (by simpa using h5)]
    · intro K2 hK2
      refine ld_of (c := .ptr) (some ⟨b, 0, none⟩) (e1 (New.refl _)) (ld_of (c := .int .i64) n (e2 (New.refl _)) (call_of (there_ok n h3 r3) ?_))
      rintro v h' ⟨rfl, hh⟩; subst h'
      refine ⟨D.there n, rfl, ?_⟩
      cases ht : D.there n with
      | false => exact br_t rfl (hK2 _ _ ⟨by simp [ht], rfl⟩)
      | true =>
        refine br_f rfl (ld_of (c := .slice) (ba, bs.length, bc) (e3 (New.refl _)) (hK2 _ _ ⟨?_, rfl⟩))
        rw [Bool.eq_iff_iff]; simp [ht]; omega
  rintro e h4 ⟨he, n4⟩ _
  have he : e = D.appendE n bs := he
  subst he
  refine ld_of (c := .ptr) (some ⟨b, 0, none⟩) (e1 n4) (ld_of (c := .int .i64) n (e2 n4) (call_of (point_ok n h4 (r3.new n4)) ?_))
  rintro v h5 ⟨rfl, n5⟩
  have n35 := n4.trans n5
  have n05 := n03.trans n35
  have r5 : PRep k (lay t h.size (0, 0)) h5 b D := r3.new n35
  refine ⟨(D.point n : Int), rfl, ld_of (c := .ptr) (some ⟨b, 0, none⟩) (e1 n35) ?_⟩
  by_cases h0 : (D.doing (D.appendE n bs)).2 = 0
  · have hE := (doing_ok h0).1
    have ea : D.append n bs = ((D.doing (D.appendE n bs)).1.setZ n { D.at_ n with pages := (D.at_ n).pages ++ [bs] }, (D.point n : Int), 0) := by
      unfold Dev.append; simp only []; rw [if_neg (by simp [h0])]
    rw [ea]
    have ht : D.there n = true := by
      cases ht : D.there n with
      | true => rfl
      | false => unfold Dev.appendE at hE; rw [if_pos (.inl ht)] at hE; cases hE
    obtain ⟨z, rfl, hz⟩ := there_nat ht
    obtain ⟨za, c, arr, r5'⟩ := r5
    have hn := fun (g : Nat) (hg : h.size ≤ g) => (lay_ge (t := t) (p := ((0, 0) : Nat × Nat)) hg)
    have sz1 := n1.size; have sz2 := n2.size
    have ne : ∀ g : Nat, h.size ≤ g → g ≠ b := fun g hg e => by have := hn g hg; rw [e, r5'.tagB] at this; exact r5'.own (Prod.mk.inj this).1
    refine call_of (doing_yes o _ 103 #[] #[ptr h.size, ptr h1.size, ptr h2.size] h5 r5' h0 (R := fun v h' => v = .tuple #[] ∧ Acted k (lay t h.size (0, 0)) h5 b ((D.doing (D.appendE (z : Int) bs)).1.setZ (z : Int) { D.at_ (z : Int) with pages := (D.at_ (z : Int)).pages ++ [bs] }) h') fun h6 r6 u6 z6 => ?_) ?_
    · have hz6 : z < (D.doing (D.appendE (z : Int) bs)).1.zs.length := by rw [doing_zs]; exact hz
      have at6 : (D.doing (D.appendE (z : Int) bs)).1.at_ (z : Int) = D.at_ (z : Int) := by rw [at_of hz6, at_of hz]; simp only [doing_zs]
      have := appendF_ok (o.doing _) h.size h1.size h2.size _ _ _ ba bc bs h6 r6 hz6 hl ((b1.new n35).upd u6 (ne _ (Nat.le_refl _))) ((b2.new n35).upd u6 (ne _ (by omega))) ((b3.new n35).upd u6 (ne _ (by omega))) (by rw [hn _ (Nat.le_refl _)]) (by rw [hn _ (by omega)]) (fun i x hx => ?_)
      · rw [at6] at this
        refine this.mono fun v h' ⟨hv, t', r', f'⟩ => ⟨hv, t', r', ?_⟩
        exact (Fr.upd u6 fun hh => hh (by rw [r5'.tagB])).trans f'
      · obtain ⟨g, o', eq, hg, hc⟩ := im.ar i x hx
        have hb := im.im (fun e => by subst e; simp at hx) g (by rw [eq]; rfl)
        refine ⟨g, o', eq, by have := n05.size; omega, ?_⟩
        by_cases eb : g = b
        · have := r5'.tagB
          rw [← eb, lay_lt hg] at this
          rw [this] at hb; exact (r5'.own hb).elim
        · rw [cellH_same (u6.same g (by have := n05.size; omega) eb), cellH_same (n05.same g hg)]; exact hc
    rintro v h7 ⟨rfl, u, hu, ac⟩
    exact ⟨.nilIface, rfl, errV_if 0, br_f rfl ⟨rfl, ac.before n05⟩⟩
  · have ea : D.append n bs = ((D.doing (D.appendE n bs)).1, 0, (D.doing (D.appendE n bs)).2) := by unfold Dev.append; simp only []; rw [if_pos h0]
    rw [ea]
    refine call_of (doing_no_ok _ _ h5 r5 h0) ?_
    rintro v h6 ⟨rfl, r6, u6⟩
    exact ⟨errV (D.doing (D.appendE n bs)).2, rfl, errV_if _, br_t (by rw [errV_nil]; simp [h0]) ⟨rfl, (Acted.of_upd r5 r6 u6).before n05⟩⟩
theorem readE {D : Dev} {n p : Int} (hd : D.down = false) (h1 : ¬ (D.there n = false ∨ p < 0 ∨ p ≥ D.P)) : D.read n p = if p ≥ (D.at_ n).pages.length then ([], 8) else if ((D.at_ n).pages.getD p.toNat []).length = 0 then ([], 6) else ((D.at_ n).pages.getD p.toNat [], 0) := by
  unfold Dev.read; rw [if_neg (by simp [hd]), if_neg h1]
theorem read_ok {k b : Nat} {t : Tags} {D : Dev} (o : DevOk D) (n p : Int) (h : Heap) (r : PRep k t h b D) :
    CallsH Tryd.prog 112 [ptr b, .int .i64 n, .int .i64 p] h fun v h' => ∃ a c, v = .tuple #[.slice a (D.read n p).1.length c, errV (D.read n p).2] ∧ Got .u8 5 h h' a c (D.read n p).1 := by
  refine fun_ok hm' Tryd.func112 (by kernel_rfl) (F112_eq _ _ _ _ h) ?_
  unfold F112
  refine call_of (at_ok n h r) ?_
  rintro v h1 ⟨q, rfl, n1, a, c, z, c0, c1, c2, hp⟩
  refine ⟨some q, rfl, ?_⟩
  have r1 := r.new n1
  have r1' := r1
  obtain ⟨za, d, arr, r2⟩ := r1'
  refine cut_q (ts := []) (fun _ h' => h' = h1 ∧ ∃ i : Nat, p = i ∧ i < (D.at_ n).pages.length ∧ ((D.at_ n).pages.getD i []).length ≠ 0 ∧ D.read n p = ((D.at_ n).pages.getD i [], 0)) ?_ ?_
  rotate_left
  · intro K hK
    refine ld_of (c := .bool) D.down r2.cd (br_of (fun hd => ?_) fun hd => ?_)
    · have e : D.read n p = ([], 7) := by unfold Dev.read; rw [if_pos hd]
      rw [e]; exact ⟨none, 0, rfl, Got.nil _ _ n1⟩
    refine cut_q (ts := [.sc .bool]) (fun (s : Bool) h' => s = decide (D.there n = false ∨ p < 0 ∨ p ≥ D.P) ∧ h' = h1) ?_ ?_
    · rintro s h' ⟨rfl, hh⟩ _; subst h'
      refine br_of (fun hs => ?_) fun hs => ?_
      · have e : D.read n p = ([], 1) := by unfold Dev.read; rw [if_neg (by simp [hd]), if_pos (of_decide_eq_true hs)]
        rw [e]; exact ⟨none, 0, rfl, Got.nil _ _ n1⟩
      have hs := of_decide_eq_false hs
      have e := readE hd hs
      refine ptr_of (ld_of (c := .slice) (a, (D.at_ n).pages.length, c) c2 (br_of (fun h0 => ?_) fun h0 => ?_))
      · rw [e, if_pos (of_decide_eq_true h0)]; exact ⟨none, 0, rfl, Got.nil _ _ n1⟩
      have h0 := of_decide_eq_false h0
      rw [if_neg h0] at e
      obtain ⟨i, rfl⟩ := Int.eq_ofNat_of_zero_le (show 0 ≤ p by omega)
      have hi : i < (D.at_ n).pages.length := by simp only [] at h0; omega
      rw [Int.toNat_natCast] at e
      have eg : (D.at_ n).pages.getD i [] = (D.at_ n).pages[i] := by simp [List.getD_eq_getElem?_getD, List.getElem?_eq_getElem hi]
      obtain ⟨a', c', im, ld⟩ := hp.ld hi
      refine ptr_of (ld_of (c := .slice) (a, (D.at_ n).pages.length, c) c2 (ld hi (br_of (fun h3 => ?_) fun h3 => hK () _ ⟨rfl, i, rfl, hi, ?_, ?_⟩)))
      · have h3 : ((D.at_ n).pages.getD i []).length = 0 := by rw [eg]; simp only [beq_iff_eq] at h3; omega
        rw [e, if_pos h3]; exact ⟨none, 0, rfl, Got.nil _ _ n1⟩
      · rw [eg]; simp only [beq_eq_false_iff_ne, ne_eq] at h3; omega
      · rw [e, if_neg (by rw [eg]; simp only [beq_eq_false_iff_ne, ne_eq] at h3; omega)]
    · intro K2 hK2
      refine call_of (there_ok n h1 r1) ?_
      rintro v h' ⟨rfl, hh⟩; subst h'
      refine ⟨D.there n, rfl, ?_⟩
      cases ht : D.there n with
      | false => exact br_t rfl (hK2 _ _ ⟨by simp [ht], rfl⟩)
      | true =>
        refine br_f rfl (br_of (fun h0 => hK2 _ _ ⟨?_, rfl⟩) fun h0 => ld_of (c := .int .i64) (D.P : Int) r2.cP (hK2 _ _ ⟨?_, rfl⟩))
        · have h0 := of_decide_eq_true h0
          symm; exact decide_eq_true (.inr (.inl h0))
        · have h0 := of_decide_eq_false h0
          rw [Bool.eq_iff_iff]; simp [ht]; omega
  rintro _ h' ⟨hh, i, rfl, hi, hne, e⟩ _; subst h'
  have eg : (D.at_ n).pages.getD i [] = (D.at_ n).pages[i] := by simp [List.getD_eq_getElem?_getD, List.getElem?_eq_getElem hi]
  rw [e, eg]
  obtain ⟨a', c', im, ld⟩ := hp.ld hi
  have hl : (D.at_ n).pages[i].length ≤ 100000 := by
    rcases ((o.at_ n).page _ (List.getElem_mem hi)).2 with h33 | h0
    · omega
    · rw [h0]; simp
  refine ptr_of (ld_of (c := .slice) (a, (D.at_ n).pages.length, c) c2 (ld hi (call_of (Head.clone_ok a' c' _ _ rfl h1 im.ar hl) ?_)))
  rintro v h2 ⟨a2, c2', rfl, g2⟩
  exact ⟨(a2, (D.at_ n).pages[i].length, c2'), rfl, a2, c2', rfl, g2.before n1⟩
/-- A zone of the program's device is another one: three cells are laid. -/
theorem resetF_ok {k b za c z : Nat} {t : Tags} {arr : Array Value} {D : Dev} (p1 p2 : Nat) (T1 T2 : TypeId) (h : Heap) (r : PD k t h b za c arr D) (hz : z < D.zs.length) (b1 : Blk h p1 #[ptr b] T1) (b2 : Blk h p2 #[.int .i64 (z : Int)] T2) :
    CallsH Tryd.prog 109 [ptr p1, ptr p2] h fun v h' => v = .tuple #[] ∧ Acted k t h b (D.setZ (z : Int) Zn.bare) h' := by
  refine fun_ok hm' Tryd.func109 (by kernel_rfl) (F109_eq _ _ _ h) ?_
  unfold F109
  have hk := r.own
  refine ld_of (c := .ptr) (some ⟨b, 0, none⟩) (by rw [cellH_blk b1]; rfl) (ptr_of (ld_of (c := .slice) (some ⟨za, 0, none⟩, D.zs.length, c) r.cz (ld_of (c := .int .i64) (z : Int) (by rw [cellH_blk b2]; rfl) (ptr_of (ix_of hz ?_)))))
  have hsz := r.size; have hle := r.le
  rw [add_mk, Int.toNat_natCast, Nat.zero_add]
  refine stL_blk r.zblk (by simp; omega) fun h1 b3 o3 => ⟨rfl, t, ⟨za, c, setsA arr (z * 3) [.int .i64 0, .bool false, .slice none 0 0], ?_⟩, Fr.upd o3.upd fun hn => hn (by rw [r.tagZ])⟩
  have hS : ∀ q : Nat × Nat, q.1 = 0 → q ≠ (k, 1) := fun q hq e => by subst e; exact hk hq
  have f : Fr (fun q => q ≠ (k, 1)) t h t h1 := Fr.upd o3.upd fun hn => hn r.tagZ
  have hin : ∀ j, j < 3 → (setsA arr (z * 3) [Value.int .i64 0, .bool false, .slice none 0 0])[z * 3 + j]? = ([Value.int .i64 0, .bool false, .slice none 0 0] : List Value)[j]? := fun j hj => by
    rw [setsA_get, if_pos ⟨by omega, by simp; omega, by omega⟩]; congr 1; omega
  have := r.put (Z := Zn.bare) f hS (tagne (by omega)) (fun j hj => tagne (by omega)) b3 (setsA_size ..) (fun i hi => by rw [setsA_get, if_neg (by simp; omega)]) ⟨none, 0, hin, PRow.nil _ _ _ _⟩
  unfold Dev.setZ; rw [Int.toNat_natCast]; exact this
theorem reset_ok {k b : Nat} {t : Tags} {D : Dev} (o : DevOk D) (n : Int) (h : Heap) (r : PRep k t h b D) :
    CallsH Tryd.prog 79 [ptr b, .int .i64 n] h fun v h' => v = errV (D.reset n).2 ∧ Acted k t h b (D.reset n).1 h' := by
  refine fun_ok hm' Tryd.func79 (by kernel_rfl) (F79_eq _ _ _ h) ?_
  unfold F79
  refine new_of fun h1 b1 n1 s1 => new_of fun h2 b2 n2 s2 => ?_
  have n02 := n1.trans n2
  have b1 := b1.new n2
  have r2 := r.lay n02
  have e1 : cellH h2 ⟨h.size, 0, none⟩ = some (ptr b) := by rw [cellH_blk b1]; rfl
  refine ld_of (c := .ptr) (some ⟨b, 0, none⟩) e1 (ld_of (c := .int .i64) n (by rw [cellH_blk b2]; rfl) (call_of (there_ok n h2 r2) ?_))
  rintro v h' ⟨rfl, hh⟩; subst h'
  refine ⟨D.there n, rfl, ?_⟩
  have no : ∀ e : Int, D.resetE n = e → (D.doing e).2 ≠ 0 → CallsH Tryd.prog 102 [ptr b, .int .i64 e, .func (.func 109) #[] #[ptr h.size, ptr h1.size]] h2 fun v h' => v = errV (D.reset n).2 ∧ Acted k t h b (D.reset n).1 h' := by
    intro e he hne
    have er : D.reset n = D.doing e := by unfold Dev.reset; rw [he]; simp only []; rw [if_pos hne]
    refine (doing_no_ok e _ h2 r2 hne).mono ?_
    rintro v h3 ⟨rfl, r3, u3⟩
    rw [er]; exact ⟨rfl, (Acted.of_upd r2 r3 u3).before n02⟩
  cases ht : D.there n with
  | false =>
    have he : D.resetE n = 1 := by unfold Dev.resetE; rw [if_pos ht]
    refine br_t rfl (ld_of (c := .ptr) (some ⟨b, 0, none⟩) e1 (call_of (no 1 he (doing_no (by decide))) ?_))
    rintro v h3 hv
    exact ⟨v, rfl, hv⟩
  | true =>
    have he : D.resetE n = 0 := by unfold Dev.resetE; rw [if_neg (by simp [ht])]
    refine br_f rfl (ld_of (c := .ptr) (some ⟨b, 0, none⟩) e1 ?_)
    by_cases h0 : (D.doing 0).2 = 0
    · have er : D.reset n = ((D.doing 0).1.setZ n Zn.bare, 0) := by unfold Dev.reset; rw [he]; simp only []; rw [if_neg (by simp [h0])]
      obtain ⟨z, rfl, hz⟩ := there_nat ht
      obtain ⟨za, c, arr, r2'⟩ := r2
      have hn := fun (g : Nat) (hg : h.size ≤ g) => (lay_ge (t := t) (p := ((0, 0) : Nat × Nat)) hg)
      have sz1 := n1.size
      have ne : ∀ g : Nat, h.size ≤ g → g ≠ b := fun g hg e => by have := hn g hg; rw [e, r2'.tagB] at this; exact r2'.own (Prod.mk.inj this).1
      refine call_of (doing_yes o _ 109 #[] #[ptr h.size, ptr h1.size] h2 r2' h0 (R := fun v h' => v = .tuple #[] ∧ Acted k (lay t h.size (0, 0)) h2 b ((D.doing 0).1.setZ (z : Int) Zn.bare) h') fun h6 r6 u6 z6 => ?_) ?_
      · refine (resetF_ok h.size h1.size _ _ h6 r6 (by rw [doing_zs]; exact hz) (b1.upd u6 (ne _ (Nat.le_refl _))) (b2.upd u6 (ne _ (by omega)))).mono ?_
        rintro v h' ⟨hv, t', r', f'⟩
        exact ⟨hv, t', r', (Fr.upd u6 fun hh => hh (by rw [r2'.tagB])).trans f'⟩
      rintro v h7 ⟨rfl, u, hu, ac⟩
      rw [er]
      exact ⟨.nilIface, rfl, rfl, ac.before n02⟩
    · refine call_of (no 0 he h0) ?_
      rintro v h3 hv
      exact ⟨v, rfl, hv⟩
/- What goes through all zones. -/
def own1 (k : Nat) : Nat × Nat → Prop := fun q => q.1 ≠ k
/-- One cell of a zone is told anew: which one, by its place. -/
theorem PD.setSure {k b za c z : Nat} {t : Tags} {h h' : Heap} {arr : Array Value} {D : Dev} (r : PD k t h b za c arr D) (hz : z < D.zs.length) (u : Nat) (hb : Blk h' za (arr.setIfInBounds (z * 3) (.int .i64 (u : Int))) 118) (o : Only za h h') :
    PD k t h' b za c (arr.setIfInBounds (z * 3) (.int .i64 (u : Int))) { D with zs := D.zs.set z { D.zs[z] with sure := u } } := by
  obtain ⟨a, d, hp, c0, c1, c2⟩ := r.zP hz
  have hk := r.own
  have hsz := r.size; have hle := r.le
  have hS : ∀ q : Nat × Nat, q.1 = 0 → q ≠ (k, 1) := fun q hq e => by subst e; exact hk hq
  have f : Fr (fun q => q ≠ (k, 1)) t h t h' := Fr.upd o.upd fun hn => hn r.tagZ
  obtain ⟨q1, q2, q3, q4⟩ := set3 (arr := arr) (z := z) (o := 0) (n := z * 3) (v := .int .i64 (u : Int)) (by omega) (by omega) rfl
  refine r.put f hS (tagne (by omega)) (fun j hj => tagne (by omega)) hb q1 q2 ⟨a, d, fun j hj => ?_, hp.fr f hS (tagne (by omega))⟩
  match j, hj with
  | 0, _ => exact q3
  | 1, _ => rw [q4 1 (by omega) (by omega)]; exact c1
  | 2, _ => rw [q4 2 (by omega) (by omega)]; exact c2
theorem settle_ok {k b : Nat} {t : Tags} {D : Dev} (o : DevOk D) (h : Heap) (r : PRep k t h b D) : CallsH Tryd.prog 110 [ptr b] h fun v h' => v = .tuple #[] ∧ PRep k t h' b D.settle ∧ Fr (own1 k) t h t h' := by
  refine fun_ok hm' Tryd.func110 (by kernel_rfl) (F110_eq _ _ h) ?_
  unfold F110
  obtain ⟨za, c, arr, r⟩ := r
  have hzn := o.zones
  refine ld_of (c := .slice) (some ⟨za, 0, none⟩, D.zs.length, c) r.cz ?_
  refine ⟨fun (s : Int) h' => ∃ (i : Nat) (arr' : Array Value), s = i ∧ i ≤ D.zs.length ∧ PD k t h' b za c arr' { D with zs := upto (fun _ Z => Z.settle) i D.zs } ∧ Fr (own1 k) t h t h', fun (s : Int) _ => ((D.zs.length : Int) - s).toNat, ⟨0, arr, rfl, Nat.zero_le _, by rw [upto_zero]; exact r, Fr.refl _ _ _⟩, ?_⟩
  rintro s j h1 ⟨i, arr', rfl, hi, r1, f1⟩
  have hlen : (upto (fun _ (Z : Zn) => Z.settle) i D.zs).length = D.zs.length := upto_len ..
  refine br_of (fun hlt => ?_) (fun hlt => ?_)
  · have hlt : i < D.zs.length := by have := of_decide_eq_true hlt; simp only [] at this; omega
    have hlt' : i < (upto (fun _ (Z : Zn) => Z.settle) i D.zs).length := by omega
    have hz : (upto (fun _ (Z : Zn) => Z.settle) i D.zs)[i] = D.zs[i] := by
      have := upto_get (fun _ (Z : Zn) => Z.settle) D.zs (Nat.le_refl i)
      rw [List.getElem?_eq_getElem hlt', List.getElem?_eq_getElem hlt] at this
      exact Option.some.inj this
    obtain ⟨a, d, hp, c0, c1, c2⟩ := r1.zP (z := i) hlt'
    simp only [hz] at hp c0 c1 c2
    have hsz := r1.size; have hle := r.le
    refine ld_of (c := .slice) (some ⟨za, 0, none⟩, D.zs.length, c) (by have := r1.cz; simp only [hlen] at this; exact this) (ld_of (c := .slice) (some ⟨za, 0, none⟩, D.zs.length, c) (by have := r1.cz; simp only [hlen] at this; exact this) (ptr_of (ix_of hlt (ld_of (c := .slice) (a, D.zs[i].pages.length, d) ?_ (ptr_of (ix_of hlt ?_))))))
    · rw [add_mk, add_mk, Int.toNat_natCast]; exact r1.cell c2 _ (by omega)
    rw [add_mk, add_mk, add_mk, Int.toNat_natCast, Nat.zero_add, Nat.add_zero]
    refine st_blk r1.zblk (by omega) fun h2 b2 o2 => ?_
    have r2 := r1.setSure (z := i) hlt' _ b2 o2
    simp only [hz] at r2
    have e : (upto (fun _ (Z : Zn) => Z.settle) i D.zs).set i { D.zs[i] with sure := D.zs[i].pages.length } = upto (fun _ (Z : Zn) => Z.settle) (i + 1) D.zs := upto_set (fun _ (Z : Zn) => Z.settle) D.zs (List.getElem?_eq_getElem hlt)
    rw [e] at r2
    rw [wr64 (by omega) (by omega)]
    exact ⟨⟨i + 1, _, rfl, hlt, r2, f1.trans (Fr.upd o2.upd fun hn => hn (by rw [r1.tagZ]))⟩, (by first | omega | (dsimp only; omega) | (simp only []; omega))⟩
  · have hi : i = D.zs.length := by have := of_decide_eq_false hlt; simp only [] at this; omega
    subst hi
    refine ⟨rfl, ⟨za, c, arr', ?_⟩, f1⟩
    have e : upto (fun _ (Z : Zn) => Z.settle) D.zs.length D.zs = D.zs.map Zn.settle := by
      rw [upto_full]; apply List.ext_getElem?; intro j; simp [List.getElem?_mapIdx]
    rw [e] at r1; exact r1
theorem flush_ok {k b : Nat} {t : Tags} {D : Dev} (o : DevOk D) (h : Heap) (r : PRep k t h b D) :
    CallsH Tryd.prog 80 [ptr b] h fun v h' => v = errV D.flush.2 ∧ Acted k t h b D.flush.1 h' := by
  refine fun_ok hm' Tryd.func80 (by kernel_rfl) (F80_eq _ _ h) ?_
  unfold F80
  by_cases h0 : (D.doing 0).2 = 0
  · have er : D.flush = ((D.doing 0).1.settle, 0) := by unfold Dev.flush; simp only []; rw [if_neg (by simp [h0])]
    obtain ⟨za, c, arr, r'⟩ := r
    refine call_of (doing_yes o _ 110 #[ptr b] #[] h r' h0 (R := fun v h' => v = .tuple #[] ∧ Acted k t h b (D.doing 0).1.settle h') fun h6 r6 u6 z6 => ?_) ?_
    · refine (settle_ok (o.doing 0) h6 ⟨za, c, arr, r6⟩).mono ?_
      rintro v h7 ⟨rfl, r7, f7⟩
      exact ⟨rfl, t, r7, (Fr.upd u6 fun hh => hh (by rw [r'.tagB])).trans f7⟩
    rintro v h7 ⟨rfl, u, hu, ac⟩
    rw [er]
    exact ⟨.nilIface, rfl, rfl, ac⟩
  · have er : D.flush = D.doing 0 := by unfold Dev.flush; simp only []; rw [if_pos h0]
    refine call_of (doing_no_ok 0 _ h r h0) ?_
    rintro v h3 ⟨rfl, r3, u3⟩
    rw [er]
    exact ⟨_, rfl, rfl, Acted.of_upd r r3 u3⟩
/-- What a crash leaves of a zone, ahead of its being sure. -/
def crash1 (keep : List Int) (tear : List Bool) (i : Nat) (Z : Zn) : Zn := { Z with pages := Z.pages.take (Z.stay keep i) ++ (if Z.torn keep tear i = true then [[]] else []) }
theorem crash1_settle (keep : List Int) (tear : List Bool) (D : Dev) : ({ D with zs := D.zs.mapIdx (crash1 keep tear) } : Dev).settle = { D with zs := D.zs.mapIdx fun i Z => Z.crash keep tear i } := by
  unfold Dev.settle
  congr 1
  apply List.ext_getElem?; intro j
  simp only [List.getElem?_map, List.getElem?_mapIdx, Option.map_map]
  rfl
theorem crash1_ok {P : Nat} {Z : Zn} (o : ZnOk P Z) (keep : List Int) (tear : List Bool) (i : Nat) : ZnOk P (crash1 keep tear i Z) := by
  have c := o.crash keep tear i
  have hs := stay_le o keep i
  refine ⟨?_, c.most, c.page⟩
  show Z.sure ≤ (Z.pages.take (Z.stay keep i) ++ _).length
  rw [List.length_append, List.length_take]; omega
theorem crash1_len {P : Nat} {Z : Zn} (o : ZnOk P Z) (keep : List Int) (tear : List Bool) (i : Nat) : (crash1 keep tear i Z).pages.length ≤ P := (o.crash keep tear i).most
/-- Rows of bools that came in. -/
def Bo (h : Heap) (a : Option Addr) (xs : List Bool) : Prop := ∀ (i : Nat) (x : Bool), xs[i]? = some x → ∃ b o, a = some ⟨b, o, none⟩ ∧ b < h.size ∧ cellH h ⟨b, o + i, none⟩ = some (.bool x)
/-- Rows that stay, whatever owner k does. -/
structure Ins (t : Tags) (h : Heap) (ka : Option Addr) (keep : List Int) (ta : Option Addr) (tear : List Bool) : Prop where
  ak : Ar .i64 h ka keep
  bt : Bo h ta tear
  kt : keep ≠ [] → ∀ g, blkOf ka = some g → (t g).1 = 0
  tt : tear ≠ [] → ∀ g, blkOf ta = some g → (t g).1 = 0
theorem Ins.fr {S : Nat × Nat → Prop} {t t' : Tags} {h h' : Heap} {ka ta : Option Addr} {keep : List Int} {tear : List Bool} (r : Ins t h ka keep ta tear) (s : Fr S t h t' h') (hS : ∀ p : Nat × Nat, p.1 = 0 → S p) : Ins t' h' ka keep ta tear := by
  have i := (Im.mk r.ak r.kt).fr s hS
  refine ⟨i.ar, fun j x hx => ?_, i.im, fun hx g hg => ?_⟩
  · obtain ⟨b, o, e, hp, hc⟩ := r.bt j x hx
    have h0 := r.tt (fun e => by subst e; simp at hx) b (by rw [e]; rfl)
    exact ⟨b, o, e, Nat.lt_of_lt_of_le hp s.size, by rw [cellH_same (s.same b hp (hS _ h0))]; exact hc⟩
  · cases tear with
    | nil => exact (hx rfl).elim
    | cons x xs =>
      obtain ⟨b, o, e, hp, _⟩ := r.bt 0 x rfl
      have h0 := r.tt hx g hg
      subst e; injection hg with hg; change b = g at hg; subst hg
      rw [s.tags b hp]; exact h0
/- A NEW DEVICE. -/
theorem new_no (n p : Int) (h : Heap) (hn : ¬ ((1 ≤ n ∧ n ≤ 24) ∧ 1 ≤ p ∧ p ≤ 16)) : CallsH Tryd.prog 26 [.int .i64 n, .int .i64 p] h fun v h' => v = .tuple #[.pointer none, errV 1] ∧ h' = h := by
  refine fun_ok hm' Tryd.func26 (by kernel_rfl) (F26_eq _ _ _ h) ?_
  unfold F26
  refine cut_q (ts := []) (fun _ _ => False) (fun _ _ hf _ => hf.elim) ?_
  intro K hK
  refine br_of (fun _ => ⟨rfl, rfl⟩) fun h1 => br_of (fun _ => ⟨rfl, rfl⟩) fun h2 => br_of (fun _ => ⟨rfl, rfl⟩) fun h3 => br_of (fun _ => ⟨rfl, rfl⟩) fun h4 => ?_
  have h1 := of_decide_eq_false h1; have h2 := of_decide_eq_false h2; have h3 := of_decide_eq_false h3; have h4 := of_decide_eq_false h4
  exact (hn ⟨⟨by omega, by omega⟩, by omega, by omega⟩).elim
theorem sizeZ : sizeN Tryd.prog 118 = 3 := by kernel_rfl
theorem bytesZ : bytesN Tryd.prog 118 = 40 := by kernel_rfl
theorem zeros_get {P : Program} {e : TypeId} {n i : Nat} {z : Array Value} (hz : zeroC P e = z) (hs : z.size = 3) (hi : i < n * 3) : (zerosOf P e (n * 3))[i]? = z[i % 3]? := by
  unfold zerosOf
  rw [hz, hs, Array.getElem?_map, Array.getElem?_range, if_pos hi]
  have : i % 3 < z.size := by omega
  simp [this]
def NewDev (L : Lo) (k : Nat) (t : Tags) (h : Heap) (b : Nat) (D : Dev) (h' : Heap) : Prop := New h h' ∧ h.size ≤ b ∧ ∃ t', (∀ g, g < h.size → t' g = t g) ∧ DRep L k t' h' b D
theorem new_ok (k : Nat) (hk : k ≠ 0) (t : Tags) (n p : Nat) (h : Heap) (hn : 1 ≤ n ∧ n ≤ 24) (hp : 1 ≤ p ∧ p ≤ 16) : CallsH Tryd.prog 26 [.int .i64 (n : Int), .int .i64 (p : Int)] h fun v h' => ∃ b, v = .tuple #[ptr b, errV 0] ∧ NewDev LoP k t h b (Dev.empty n p) h' := by
  refine fun_ok hm' Tryd.func26 (by kernel_rfl) (F26_eq _ _ _ h) ?_
  unfold F26
  refine cut_q (ts := []) (fun _ h' => h' = h) ?_ ?_
  rotate_left
  · intro K hK
    exact br_f (decide_eq_false (by omega)) (br_f (decide_eq_false (by omega)) (br_f (decide_eq_false (by omega)) (br_f (decide_eq_false (by omega)) (hK () _ rfl))))
  rintro _ h' hh _; subst h'
  refine ⟨⟨by omega, by omega, by rw [bytesZ]; omega, by omega⟩, ?_⟩
  rw [Int.toNat_natCast, sizeZ]
  generalize hg : h.push (.cells (zerosOf Tryd.prog 118 (n * 3)) 118) = h1
  have b1 : Blk h1 h.size (zerosOf Tryd.prog 118 (n * 3)) 118 := by rw [← hg]; exact Blk.push ..
  have n1 : New h h1 := by rw [← hg]; exact New.push ..
  have s1 : h1.size = h.size + 1 := by rw [← hg]; simp
  refine new_of fun h2 b2 n2 s2 => ⟨h1.size, rfl, n1.trans n2, by omega, fun g => if g < h.size then t g else if g = h.size then (k, 1) else (k, 0), fun g hg => if_pos hg, h.size, n, zerosOf Tryd.prog 118 (n * 3), ?_⟩
  have hl : (Dev.empty n p).zs.length = n := by simp [Dev.empty]
  refine ⟨hk, ?_, ?_, b1.new n2, ?_, by simp [zerosOf], by rw [hl]; exact Nat.le_refl _, by simp [maxLen]; omega, fun z Z hz => ?_⟩
  · rw [hl]; exact b2
  · show (if h1.size < h.size then t h1.size else if h1.size = h.size then (k, 1) else (k, 0)) = (k, 0)
    rw [if_neg (by omega), if_neg (by omega)]
  · show (if h.size < h.size then t h.size else if h.size = h.size then (k, 1) else (k, 0)) = (k, 1)
    rw [if_neg (by omega), if_pos rfl]
  · have hzn : z < n := by have := (List.getElem?_eq_some_iff.1 hz).1; omega
    have : Z = Zn.bare := List.eq_of_mem_replicate (List.mem_of_getElem? hz)
    subst this
    refine ⟨none, 0, fun j hj => ?_, PRow.nil _ _ _ _⟩
    rw [zeros_get zeroZ rfl (by omega), show (z * 3 + j) % 3 = j by omega]
    match j, hj with
    | 0, _ => rfl
    | 1, _ => rfl
    | 2, _ => rfl
end Go.Proofs.YthimfpkkdhpceaaDoor.ZnsP
/-
  The formulas of package media. Each formula checked by the kernel. Printed by a program of this repo.
-/
namespace Go.Proofs.YthimfpkkdhpceaaDoor.W
open Go.Pl

-- function 29
set_option maxRecDepth 100000 in
def F29 (d_0 : Addr) (g_1_0 : Int) (g_1_1 : Int) (g_1_2 : Int) (zone_2 : Int) (h_3_0 : Int) (h_3_1 : Int) (h_3_2 : Int) (h_3_3 : Int) (block_4 : Option Addr) (block_4l block_4c : Nat) (K : Value → Heap → Prop) (h0 : Heap) : Prop := (
  newW (.cells #[.int .i64 g_1_0, .int .i64 g_1_1, .int .i64 g_1_2] 24) (fun a1 h2 =>
  newW (.cells #[.int .u8 h_3_0, .int .u32 h_3_1, .int .u32 h_3_2, .int .u32 h_3_3] 65) (fun a3 h4 =>
  ldAggW [.int .i64, .int .i64, .int .i64] a1 (fun (x5 : Int × Int × Int) =>
  callT Tryd.prog 66 [.agg #[.int .i64 x5.1, .int .i64 x5.2.1, .int .i64 x5.2.2], .int .i64 zone_2, .int .i64 0] [.sc (.int .u32)] (fun (r6 : Int) h7 =>
  br (r6 == (0 : Int))
  (callT Tryd.prog 67 [.string ((⟨#[112, 117, 116]⟩ : ByteArray)), .int .i64 zone_2, .iface 35 (.int .i64 1)] [.sc .any] (fun (r8 : Value) h9 =>
  K (.tuple #[.int .u32 0, r8]) h9) h7)
  (ldAggW [.int .u8, .int .u32, .int .u32, .int .u32] a3 (fun (x10 : Int × Int × Int × Int) =>
  callT Tryd.prog 68 [.agg #[.int .u8 x10.1, .int .u32 x10.2.1, .int .u32 x10.2.2.1, .int .u32 x10.2.2.2], .slice block_4 block_4l block_4c] [.sc .slice, .sc .any] (fun (r11 : (Option Addr × Nat × Nat) × Value) h12 =>
  ifW r11.2 (br (!(isNilV r11.2))
  (callT Tryd.prog 67 [.string ((⟨#[112, 117, 116]⟩ : ByteArray)), .int .i64 zone_2, r11.2] [.sc .any] (fun (r13 : Value) h14 =>
  K (.tuple #[.int .u32 0, r13]) h14) h12)
  (callT Tryd.prog 69 [.pointer (some d_0), .int .i64 zone_2, .slice r11.1.1 r11.1.2.1 r11.1.2.2] [.sc (.int .i64), .sc .any] (fun (r15 : Int × Value) h16 =>
  ifW r15.2 (br (!(isNilV r15.2))
  (callT Tryd.prog 67 [.string ((⟨#[112, 117, 116]⟩ : ByteArray)), .int .i64 zone_2, r15.2] [.sc .any] (fun (r17 : Value) h18 =>
  K (.tuple #[.int .u32 0, r17]) h18) h16)
  (ldAggW [.int .i64, .int .i64, .int .i64] a1 (fun (x19 : Int × Int × Int) =>
  callT Tryd.prog 66 [.agg #[.int .i64 x19.1, .int .i64 x19.2.1, .int .i64 x19.2.2], .int .i64 zone_2, .int .i64 r15.1] [.sc (.int .u32)] (fun (r20 : Int) h21 =>
  K (.tuple #[.int .u32 r20, .nilIface]) h21) h16) h16))) h12))) h7) h7)) h4) h4) h2) h0)
set_option maxRecDepth 100000 in
theorem F29_eq (d_0 : Addr) (g_1_0 : Int) (g_1_1 : Int) (g_1_2 : Int) (zone_2 : Int) (h_3_0 : Int) (h_3_1 : Int) (h_3_2 : Int) (h_3_3 : Int) (block_4 : Option Addr) (block_4l block_4c : Nat) (K : Value → Heap → Prop) (h0 : Heap) : funWE Tryd.prog 29 (.seq (.leaf) (.seq (.seq (.leaf) (.cond (.seq (.leaf) (.leaf)) (.leaf))) (.seq (.leaf) (.seq (.seq (.leaf) (.cond (.seq (.leaf) (.leaf)) (.leaf))) (.seq (.leaf) (.seq (.seq (.leaf) (.cond (.seq (.leaf) (.leaf)) (.leaf))) (.seq (.leaf) (.leaf)))))))) [.pointer (some d_0), .agg #[.int .i64 g_1_0, .int .i64 g_1_1, .int .i64 g_1_2], .int .i64 zone_2, .agg #[.int .u8 h_3_0, .int .u32 h_3_1, .int .u32 h_3_2, .int .u32 h_3_3], .slice block_4 block_4l block_4c] K h0 = F29 d_0 g_1_0 g_1_1 g_1_2 zone_2 h_3_0 h_3_1 h_3_2 h_3_3 block_4 block_4l block_4c K h0 := by kernel_rfl

-- function 105
set_option maxRecDepth 100000 in
def F105 (d_0 : Addr) (g_1_0 : Int) (g_1_1 : Int) (g_1_2 : Int) (a_2 : Int) (K : Value → Heap → Prop) (h0 : Heap) : Prop := (
  newW (.cells #[.int .i64 g_1_0, .int .i64 g_1_1, .int .i64 g_1_2] 24) (fun a1 h2 =>
  newW (.cells (zeroC Tryd.prog 65) 65) (fun a3 h4 =>
  ldAggW [.int .i64, .int .i64, .int .i64] a1 (fun (x5 : Int × Int × Int) =>
  callT Tryd.prog 120 [.agg #[.int .i64 x5.1, .int .i64 x5.2.1, .int .i64 x5.2.2], .int .u32 a_2] [.sc (.int .i64), .sc (.int .i64), .sc .bool] (fun (r6 : Int × Int × Bool) h7 =>
  br (!r6.2.2)
  (callT Tryd.prog 67 [.string ((⟨#[103, 101, 116]⟩ : ByteArray)), .int .i64 (IntKind.wrap .i64 a_2), .iface 35 (.int .i64 1)] [.sc .any] (fun (r8 : Value) h9 =>
  stLW a3 [.int .u8 0, .int .u32 0, .int .u32 0, .int .u32 0] (fun h10 =>
  ldAggW [.int .u8, .int .u32, .int .u32, .int .u32] a3 (fun (x11 : Int × Int × Int × Int) =>
  K (.tuple #[.agg #[.int .u8 x11.1, .int .u32 x11.2.1, .int .u32 x11.2.2.1, .int .u32 x11.2.2.2], .slice none 0 0, r8]) h10) h10) h9) h7)
  (callT Tryd.prog 112 [.pointer (some d_0), .int .i64 r6.1, .int .i64 r6.2.1] [.sc .slice, .sc .any] (fun (r12 : (Option Addr × Nat × Nat) × Value) h13 =>
  ifW r12.2 (br (!(isNilV r12.2))
  (callT Tryd.prog 67 [.string ((⟨#[103, 101, 116]⟩ : ByteArray)), .int .i64 (IntKind.wrap .i64 a_2), r12.2] [.sc .any] (fun (r14 : Value) h15 =>
  stLW a3 [.int .u8 0, .int .u32 0, .int .u32 0, .int .u32 0] (fun h16 =>
  ldAggW [.int .u8, .int .u32, .int .u32, .int .u32] a3 (fun (x17 : Int × Int × Int × Int) =>
  K (.tuple #[.agg #[.int .u8 x17.1, .int .u32 x17.2.1, .int .u32 x17.2.2.1, .int .u32 x17.2.2.2], .slice none 0 0, r14]) h16) h16) h15) h13)
  (callT Tryd.prog 113 [.slice r12.1.1 r12.1.2.1 r12.1.2.2] [.agg [.int .u8, .int .u32, .int .u32, .int .u32], .sc .slice, .sc .any] (fun (r18 : (Int × Int × Int × Int) × (Option Addr × Nat × Nat) × Value) h19 =>
  newW (.cells (zeroC Tryd.prog 65) 65) (fun a20 h21 =>
  stLW a20 [.int .u8 r18.1.1, .int .u32 r18.1.2.1, .int .u32 r18.1.2.2.1, .int .u32 r18.1.2.2.2] (fun h22 =>
  ldAggW [.int .u8, .int .u32, .int .u32, .int .u32] a20 (fun (x23 : Int × Int × Int × Int) =>
  callT Tryd.prog 67 [.string ((⟨#[103, 101, 116]⟩ : ByteArray)), .int .i64 (IntKind.wrap .i64 a_2), r18.2.2] [.sc .any] (fun (r24 : Value) h25 =>
  (cellH h25 (Addr.add a20 0) = some (.int .u8 x23.1) ∧ (cellH h25 (Addr.add a20 1) = some (.int .u32 x23.2.1) ∧ (cellH h25 (Addr.add a20 2) = some (.int .u32 x23.2.2.1) ∧ (cellH h25 (Addr.add a20 3) = some (.int .u32 x23.2.2.2) ∧ stLW a3 [.int .u8 x23.1, .int .u32 x23.2.1, .int .u32 x23.2.2.1, .int .u32 x23.2.2.2] (fun h26 =>
  ldAggW [.int .u8, .int .u32, .int .u32, .int .u32] a3 (fun (x27 : Int × Int × Int × Int) =>
  K (.tuple #[.agg #[.int .u8 x27.1, .int .u32 x27.2.1, .int .u32 x27.2.2.1, .int .u32 x27.2.2.2], .slice r18.2.1.1 r18.2.1.2.1 r18.2.1.2.2, r24]) h26) h26) h25))))) h22) h22) h21) h19) h13))) h7)) h4) h4) h2) h0)
set_option maxRecDepth 100000 in
theorem F105_eq (d_0 : Addr) (g_1_0 : Int) (g_1_1 : Int) (g_1_2 : Int) (a_2 : Int) (K : Value → Heap → Prop) (h0 : Heap) : funWE Tryd.prog 105 (.seq (.leaf) (.seq (.leaf) (.seq (.seq (.leaf) (.cond (.seq (.leaf) (.leaf)) (.leaf))) (.seq (.leaf) (.seq (.seq (.leaf) (.cond (.seq (.leaf) (.leaf)) (.leaf))) (.seq (.leaf) (.seq (.draw (odp [0, 1, 2, 3, 4, 5, 6, 7, 8] .nil) [200000]) (.leaf)))))))) [.pointer (some d_0), .agg #[.int .i64 g_1_0, .int .i64 g_1_1, .int .i64 g_1_2], .int .u32 a_2] K h0 = F105 d_0 g_1_0 g_1_1 g_1_2 a_2 K h0 := by kernel_rfl

end Go.Proofs.YthimfpkkdhpceaaDoor.W
/-
  The formulas of errors.As. Each formula checked by the kernel. Printed by a program of this repo.
-/
namespace Go.Proofs.YthimfpkkdhpceaaDoor.W
open Go.Pl

-- function 61
set_option maxRecDepth 100000 in
def F61 (err_0 : Value) (target_1 : Value) (K : Value → Heap → Prop) (h0 : Heap) : Prop := (
  ifW err_0 (br (isNilV err_0)
  (K (.bool false) h0)
  (cutT [] (fun (K1 : Unit → Heap → Prop) h2 =>
  ifW target_1 (br (isNilV target_1)
  (False)
  (K1 () h2))) (fun (_s3 : Unit) _ h4 =>
  callT Tryd.prog 92 [target_1] [.agg [.ptr, .any, .int .u64]] (fun (r5 : ((Option Addr) × Value × Int)) h6 =>
  newW (.cells (zeroC Tryd.prog 151) 151) (fun a7 h8 =>
  oneC r5.2.1 (stLW a7 [.pointer r5.1, r5.2.1, .int .u64 r5.2.2] (fun h9 =>
  ldAggW [.ptr, .any, .int .u64] a7 (fun (x10 : (Option Addr) × Value × Int) =>
  callT Tryd.prog 93 [.agg #[.pointer x10.1, x10.2.1, .int .u64 x10.2.2]] [.sc .any] (fun (r11 : Value) h12 =>
  cutT [] (fun (K13 : Unit → Heap → Prop) h19 =>
  invW Tryd.prog (.sc (.int .u8)) r11 "Kind" [] (fun (x14 : Int) h15 =>
  br (x14 != (22 : Int))
  (False)
  (ldAggW [.ptr, .any, .int .u64] a7 (fun (x16 : (Option Addr) × Value × Int) =>
  callT Tryd.prog 94 [.agg #[.pointer x16.1, x16.2.1, .int .u64 x16.2.2]] [.sc .bool] (fun (r17 : Bool) h18 =>
  br r17
  (False)
  (K13 () h18)) h15) h15)) h19) (fun (_s20 : Unit) _ h21 =>
  invW Tryd.prog (.sc .any) r11 "Elem" [] (fun (x22 : Value) h23 =>
  cutT [] (fun (K24 : Unit → Heap → Prop) h30 =>
  invW Tryd.prog (.sc (.int .u8)) x22 "Kind" [] (fun (x25 : Int) h26 =>
  br (x25 != (20 : Int))
  (ldW .any (⟨0, 0, none⟩) (fun (x27 : Value) =>
  invW Tryd.prog (.sc .bool) x22 "Implements" [x27] (fun (x28 : Bool) h29 =>
  br (!x28)
  (False)
  (K24 () h29)) h26) h26)
  (K24 () h26)) h30) (fun (_s31 : Unit) _ h32 =>
  ldAggW [.ptr, .any, .int .u64] a7 (fun (x33 : (Option Addr) × Value × Int) =>
  callT Tryd.prog 95 [err_0, target_1, .agg #[.pointer x33.1, x33.2.1, .int .u64 x33.2.2], x22] [.sc .bool] (fun (r34 : Bool) h35 =>
  K (.bool r34) h35) h32) h32) h23) h21) h12) h9) h9) h8)) h6) h4) h0)))
set_option maxRecDepth 100000 in
theorem F61_eq (err_0 : Value) (target_1 : Value) (K : Value → Heap → Prop) (h0 : Heap) : funWE Tryd.prog 61 (.seq (.leaf) (.seq (.seq (.leaf) (.cond (.seq (.leaf) (.leaf)) (.leaf))) (.cut [] (.seq (.leaf) (.cond (.leaf) (.leaf))) (.seq (.leaf) (.seq (.leaf) (.cut [] (.seq (.leaf) (.cond (.leaf) (.leaf))) (.seq (.leaf) (.cut [] (.seq (.leaf) (.cond (.leaf) (.leaf))) (.seq (.leaf) (.leaf)))))))))) [err_0, target_1] K h0 = F61 err_0 target_1 K h0 := by kernel_rfl

-- function 95
set_option maxRecDepth 100000 in
def F95 (err_0 : Value) (target_1 : Value) (targetVal_2_0 : Option Addr) (targetVal_2_1 : Value) (targetVal_2_2 : Int) (targetType_3 : Value) (K : Value → Heap → Prop) (h0 : Heap) : Prop := (
  newW (.cells #[.pointer targetVal_2_0, targetVal_2_1, .int .u64 targetVal_2_2] 151) (fun a1 h2 =>
  loopT [.sc .any] (fun (s4 : Value) _ (K3 : Value → Heap → Prop) h5 =>
  callT Tryd.prog 106 [s4] [.sc .any] (fun (r6 : Value) h7 =>
  invW Tryd.prog (.sc .bool) r6 "AssignableTo" [targetType_3] (fun (x8 : Bool) h9 =>
  br x8
  (ldAggW [.ptr, .any, .int .u64] a1 (fun (x10 : (Option Addr) × Value × Int) =>
  callT Tryd.prog 118 [.agg #[.pointer x10.1, x10.2.1, .int .u64 x10.2.2]] [.agg [.ptr, .any, .int .u64]] (fun (r11 : ((Option Addr) × Value × Int)) h12 =>
  callT Tryd.prog 92 [s4] [.agg [.ptr, .any, .int .u64]] (fun (r13 : ((Option Addr) × Value × Int)) h14 =>
  callT Tryd.prog 119 [.agg #[.pointer r11.1, r11.2.1, .int .u64 r11.2.2], .agg #[.pointer r13.1, r13.2.1, .int .u64 r13.2.2]] [] (fun (_r15 : Unit) h16 =>
  K (.bool true) h16) h14) h12) h9) h9)
  (cutT [] (fun (K17 : Unit → Heap → Prop) h24 =>
  cutT [.sc .any, .sc .bool] (fun (K18 : (Value × Bool) → Heap → Prop) h19 =>
  asI Tryd.prog 189 s4
  (K18 (s4, true) h19)
  (K18 ((.nilIface : Value), false) h19)) (fun (s20 : Value × Bool) _ h21 =>
  br s20.2
  (invW Tryd.prog (.sc .bool) s20.1 "As" [target_1] (fun (x22 : Bool) h23 =>
  br x22
  (K (.bool true) h23)
  (K17 () h23)) h21)
  (K17 () h21)) h24) (fun (_s25 : Unit) _ h26 =>
  cutT [.sc .bool, .sc .any] (fun (K27 : (Bool × Value) → Heap → Prop) h28 =>
  asI Tryd.prog 192 s4
  (K27 (true, s4) h28)
  (K27 (false, (.nilIface : Value)) h28)) (fun (s29 : Bool × Value) _ h30 =>
  br s29.1
  (invW Tryd.prog (.sc .any) s29.2 "Unwrap" [] (fun (x31 : Value) h32 =>
  ifW x31 (br (isNilV x31)
  (K (.bool false) h32)
  (K3 x31 h32))) h30)
  (cutT [.sc .bool, .sc .any] (fun (K33 : (Bool × Value) → Heap → Prop) h34 =>
  asI Tryd.prog 193 s4
  (K33 (true, s4) h34)
  (K33 (false, (.nilIface : Value)) h34)) (fun (s35 : Bool × Value) _ h36 =>
  br s35.1
  (invW Tryd.prog (.sc .slice) s35.2 "Unwrap" [] (fun (x37 : Option Addr × Nat × Nat) h38 =>
  loopT [.sc (.int .i64)] (fun (s40 : Int) _ (K39 : Int → Heap → Prop) h41 =>
  br (decide (s40 < (((x37.2.1 : Nat) : Int))))
  (ptrW x37.1 (fun a42 =>
  idxW s40 x37.2.1 true (ldW .any (Addr.add a42 (Int.toNat s40 * 1)) (fun (x43 : Value) =>
  ifW x43 (br (isNilV x43)
  (K39 (IntKind.wrap .i64 (s40 + (1 : Int))) h41)
  (ldAggW [.ptr, .any, .int .u64] a1 (fun (x44 : (Option Addr) × Value × Int) =>
  callT Tryd.prog 95 [x43, target_1, .agg #[.pointer x44.1, x44.2.1, .int .u64 x44.2.2], targetType_3] [.sc .bool] (fun (r45 : Bool) h46 =>
  br r45
  (K (.bool true) h46)
  (K39 (IntKind.wrap .i64 (s40 + (1 : Int))) h46)) h41) h41))) h41)))
  (K (.bool false) h41)) (0 : Int) h38) h36)
  (K (.bool false) h36)) h30)) h26) h9)) h7) h5) err_0 h2) h0)
set_option maxRecDepth 100000 in
theorem F95_eq (err_0 : Value) (target_1 : Value) (targetVal_2_0 : Option Addr) (targetVal_2_1 : Value) (targetVal_2_2 : Int) (targetType_3 : Value) (K : Value → Heap → Prop) (h0 : Heap) : funWE Tryd.prog 95 (.seq (.leaf) (.block (.loop [(0, .sc .any)] (.block (.seq (.seq (.leaf) (.cond (.seq (.leaf) (.seq (.leaf) (.leaf))) (.leaf))) (.cut [] (.cut [(9, .sc .any), (10, .sc .bool)] (.leaf) (.seq (.leaf) (.cond (.seq (.leaf) (.leaf)) (.leaf)))) (.seq (.leaf) (.block (.cut [(38, .sc .bool), (39, .sc .any)] (.leaf) (.cond (.seq (.leaf) (.seq (.leaf) (.seq (.leaf) (.cond (.seq (.leaf) (.leaf)) (.leaf))))) (.cut [(45, .sc .bool), (46, .sc .any)] (.leaf) (.cond (.seq (.leaf) (.seq (.seq (.leaf) (.block (.loop [(50, .sc (.int .i64))] (.seq (.leaf) (.seq (.cond (.leaf) (.leaf)) (.seq (.block (.seq (.leaf) (.seq (.seq (.leaf) (.cond (.leaf) (.leaf))) (.seq (.leaf) (.cond (.seq (.leaf) (.leaf)) (.leaf)))))) (.leaf))))))) (.seq (.leaf) (.leaf)))) (.seq (.leaf) (.seq (.leaf) (.leaf))))))))))))))) [err_0, target_1, .agg #[.pointer targetVal_2_0, targetVal_2_1, .int .u64 targetVal_2_2], targetType_3] K h0 = F95 err_0 target_1 targetVal_2_0 targetVal_2_1 targetVal_2_2 targetType_3 K h0 := by kernel_rfl

end Go.Proofs.YthimfpkkdhpceaaDoor.W
/-
  The formulas of package fault: Wrap and Unwrap. Each formula checked by the kernel. Printed by a program of this repo.
-/
namespace Go.Proofs.YthimfpkkdhpceaaDoor.W
open Go.Pl

-- function 67
set_option maxRecDepth 100000 in
def F67 (op_0 : ByteArray) (at_1 : Int) (err_2 : Value) (K : Value → Heap → Prop) (h0 : Heap) : Prop := (
  cutT [] (fun (K1 : Unit → Heap → Prop) h7 =>
  ifW err_2 (br (isNilV err_2)
  (K (.nilIface) h7)
  (cutT [.sc .bool, .sc (.int .i64)] (fun (K2 : (Bool × Int) → Heap → Prop) h4 =>
  asW (.sc (.int .i64)) err_2 35 (fun (x3 : Int) =>
  K2 (true, x3) h4) (K2 (false, (0 : Int)) h4)) (fun (s5 : Bool × Int) _ h6 =>
  br s5.1
  (br (s5.2 == (0 : Int))
  (K (.nilIface) h6)
  (K1 () h6))
  (K1 () h6)) h7))) (fun (_s8 : Unit) _ h9 =>
  buildA Tryd.prog 165 [.str, .int .i64, .any] [(0, .string op_0), (1, .int .i64 at_1), (2, err_2)] (fun (x10 : ByteArray × Int × Value) =>
  newW (.cells #[.string x10.1, .int .i64 x10.2.1, x10.2.2] 165) (fun a11 h12 =>
  K (.iface 163 (.pointer (some a11))) h12) h9)) h0)
set_option maxRecDepth 100000 in
theorem F67_eq (op_0 : ByteArray) (at_1 : Int) (err_2 : Value) (K : Value → Heap → Prop) (h0 : Heap) : funWE Tryd.prog 67 (.seq (.leaf) (.cut [] (.seq (.leaf) (.block (.seq (.leaf) (.cond (.seq (.leaf) (.seq (.leaf) (.leaf))) (.cut [(12, .sc .bool), (13, .sc (.int .i64))] (.leaf) (.cond (.seq (.leaf) (.seq (.leaf) (.cond (.seq (.leaf) (.leaf)) (.leaf)))) (.leaf))))))) (.seq (.leaf) (.leaf)))) [.string op_0, .int .i64 at_1, err_2] K h0 = F67 op_0 at_1 err_2 K h0 := by kernel_rfl

-- function 144
set_option maxRecDepth 100000 in
def F144 (f_0 : Addr) (K : Value → Heap → Prop) (h0 : Heap) : Prop := (
  ldW .any (Addr.add f_0 2) (fun (x1 : Value) =>
  K (x1) h0) h0)
set_option maxRecDepth 100000 in
theorem F144_eq (f_0 : Addr) (K : Value → Heap → Prop) (h0 : Heap) : funWE Tryd.prog 144 (.seq (.leaf) (.seq (.leaf) (.leaf))) [.pointer (some f_0)] K h0 = F144 f_0 K h0 := by kernel_rfl

end Go.Proofs.YthimfpkkdhpceaaDoor.W
/-
  errors.As and errors.Is over chains of faults (and plain codes); fault.Code, Is, Wrap, Trail, Place over them. errors.errorType must read as the program lays it.
-/
namespace Go.Proofs.YthimfpkkdhpceaaDoor.Err
open Go.RowKit Go.Extern.Stop Go.Stop Go.Extern Go.Pl Go.Proofs.YthimfpkkdhpceaaDoor.W Go.Proofs.YthimfpkkdhpceaaDoor.As
theorem ext_at {f : FuncId} {fn : Func} {e : Array Value → Sem Value} (hf : Tryd.prog.funcs[f]? = some fn) (hname : (fn.name == "runtime.NumGoroutine") = false)
    (hb : fn.body.isNone = true) (hn : Extern.findNext fn = none) (he : Extern.find fn = some e) {args : Array Value} {w w' : World} {v : Value} (h : (e args).run Tryd.prog w = .ok v w') :
    (callFunc f args).run Tryd.prog w = .ok (.value v) w' := by rw [run_callFunc_extern hf hname hb hn he, h]; rfl
theorem mKind (x : Value) (w : World) : (Go.method (Tryd.prog.types.size + Made.depth) 185 (.agg #[x]) "Kind").run Tryd.prog w = .ok (136, x) w := by kernel_rfl
theorem mElem (x : Value) (w : World) : (Go.method (Tryd.prog.types.size + Made.depth) 185 (.agg #[x]) "Elem").run Tryd.prog w = .ok (148, .agg #[x]) w := by kernel_rfl
theorem mImpl (x : Value) (w : World) : (Go.method (Tryd.prog.types.size + Made.depth) 185 (.agg #[x]) "Implements").run Tryd.prog w = .ok (149, .agg #[x]) w := by kernel_rfl
theorem mAsg (x : Value) (w : World) : (Go.method (Tryd.prog.types.size + Made.depth) 185 (.agg #[x]) "AssignableTo").run Tryd.prog w = .ok (146, .agg #[x]) w := by kernel_rfl
theorem mCmp (x : Value) (w : World) : (Go.method (Tryd.prog.types.size + Made.depth) 185 (.agg #[x]) "Comparable").run Tryd.prog w = .ok (147, .agg #[x]) w := by kernel_rfl
theorem typeOfE' (v : Value) (w : World) : (ReflectliteType.typeOf #[.iface 35 v]).run Tryd.prog w = .ok (.iface 185 (.agg #[.pointer (some ⟨1, 35, none⟩)])) w := by kernel_rfl
theorem xTypeOfE (v : Value) (h : Heap) : extH Tryd.prog 106 [.iface 35 v] h fun v h' => v = .iface 185 (.agg #[.pointer (some ⟨1, 35, none⟩)]) ∧ h' = h := fun w hw => ⟨_, _, ext_at Tryd.func106 (by kernel_rfl) (by kernel_rfl) (by kernel_rfl) (show Extern.find _ = some (ReflectliteType.typeOf) by kernel_rfl) (typeOfE' v w), ⟨rfl, hw⟩, Rest.refl w⟩
theorem typeOfF' (v : Value) (w : World) : (ReflectliteType.typeOf #[.iface 163 v]).run Tryd.prog w = .ok (.iface 185 (.agg #[.pointer (some ⟨1, 163, none⟩)])) w := by kernel_rfl
theorem xTypeOfF (v : Value) (h : Heap) : extH Tryd.prog 106 [.iface 163 v] h fun v h' => v = .iface 185 (.agg #[.pointer (some ⟨1, 163, none⟩)]) ∧ h' = h := fun w hw => ⟨_, _, ext_at Tryd.func106 (by kernel_rfl) (by kernel_rfl) (by kernel_rfl) (show Extern.find _ = some (ReflectliteType.typeOf) by kernel_rfl) (typeOfF' v w), ⟨rfl, hw⟩, Rest.refl w⟩
theorem kindPE' (w : World) : ((ReflectliteType.abiMethod fun t => do pure (.int .u8 (← Rtype.kind t))) #[.pointer (some ⟨1, 108, none⟩)]).run Tryd.prog w = .ok (.int .u8 22) w := by kernel_rfl
theorem xKindPE  (h : Heap) : extH Tryd.prog 136 [.pointer (some ⟨1, 108, none⟩)] h fun v h' => v = .int .u8 22 ∧ h' = h := fun w hw => ⟨_, _, ext_at Tryd.func136 (by kernel_rfl) (by kernel_rfl) (by kernel_rfl) (show Extern.find _ = some (ReflectliteType.abiMethod fun t => do pure (.int .u8 (← Rtype.kind t))) by kernel_rfl) (kindPE' w), ⟨rfl, hw⟩, Rest.refl w⟩
theorem kindE' (w : World) : ((ReflectliteType.abiMethod fun t => do pure (.int .u8 (← Rtype.kind t))) #[.pointer (some ⟨1, 35, none⟩)]).run Tryd.prog w = .ok (.int .u8 2) w := by kernel_rfl
theorem xKindE  (h : Heap) : extH Tryd.prog 136 [.pointer (some ⟨1, 35, none⟩)] h fun v h' => v = .int .u8 2 ∧ h' = h := fun w hw => ⟨_, _, ext_at Tryd.func136 (by kernel_rfl) (by kernel_rfl) (by kernel_rfl) (show Extern.find _ = some (ReflectliteType.abiMethod fun t => do pure (.int .u8 (← Rtype.kind t))) by kernel_rfl) (kindE' w), ⟨rfl, hw⟩, Rest.refl w⟩
theorem kindF' (w : World) : ((ReflectliteType.abiMethod fun t => do pure (.int .u8 (← Rtype.kind t))) #[.pointer (some ⟨1, 163, none⟩)]).run Tryd.prog w = .ok (.int .u8 22) w := by kernel_rfl
theorem xKindF  (h : Heap) : extH Tryd.prog 136 [.pointer (some ⟨1, 163, none⟩)] h fun v h' => v = .int .u8 22 ∧ h' = h := fun w hw => ⟨_, _, ext_at Tryd.func136 (by kernel_rfl) (by kernel_rfl) (by kernel_rfl) (show Extern.find _ = some (ReflectliteType.abiMethod fun t => do pure (.int .u8 (← Rtype.kind t))) by kernel_rfl) (kindF' w), ⟨rfl, hw⟩, Rest.refl w⟩
theorem cmpE' (w : World) : ((ReflectliteType.method fun t => do Extern.Rtype.noPackHeld "Comparable" t; pure (.bool (← typeInfo t).comparable)) #[.agg #[.pointer (some ⟨1, 35, none⟩)]]).run Tryd.prog w = .ok (.bool true) w := by kernel_rfl
theorem xCmpE  (h : Heap) : extH Tryd.prog 147 [.agg #[.pointer (some ⟨1, 35, none⟩)]] h fun v h' => v = .bool true ∧ h' = h := fun w hw => ⟨_, _, ext_at Tryd.func147 (by kernel_rfl) (by kernel_rfl) (by kernel_rfl) (show Extern.find _ = some (ReflectliteType.method fun t => do Extern.Rtype.noPackHeld "Comparable" t; pure (.bool (← typeInfo t).comparable)) by kernel_rfl) (cmpE' w), ⟨rfl, hw⟩, Rest.refl w⟩
theorem elemE' (w : World) : (ReflectliteType.method ReflectliteType.elem #[.agg #[.pointer (some ⟨1, 108, none⟩)]]).run Tryd.prog w = .ok (.iface 185 (.agg #[.pointer (some ⟨1, 35, none⟩)])) w := by kernel_rfl
theorem xElemE  (h : Heap) : extH Tryd.prog 148 [.agg #[.pointer (some ⟨1, 108, none⟩)]] h fun v h' => v = .iface 185 (.agg #[.pointer (some ⟨1, 35, none⟩)]) ∧ h' = h := fun w hw => ⟨_, _, ext_at Tryd.func148 (by kernel_rfl) (by kernel_rfl) (by kernel_rfl) (show Extern.find _ = some (ReflectliteType.method ReflectliteType.elem) by kernel_rfl) (elemE' w), ⟨rfl, hw⟩, Rest.refl w⟩
theorem implE' (w : World) : (ReflectliteType.relation "Implements" ReflectliteType.implements_ #[.agg #[.pointer (some ⟨1, 35, none⟩)], .iface 185 (.agg #[.pointer (some ⟨1, 32, none⟩)])]).run Tryd.prog w = .ok (.bool true) w := by kernel_rfl
theorem xImplE  (h : Heap) : extH Tryd.prog 149 [.agg #[.pointer (some ⟨1, 35, none⟩)], .iface 185 (.agg #[.pointer (some ⟨1, 32, none⟩)])] h fun v h' => v = .bool true ∧ h' = h := fun w hw => ⟨_, _, ext_at Tryd.func149 (by kernel_rfl) (by kernel_rfl) (by kernel_rfl) (show Extern.find _ = some (ReflectliteType.relation "Implements" ReflectliteType.implements_) by kernel_rfl) (implE' w), ⟨rfl, hw⟩, Rest.refl w⟩
theorem asgEE' (w : World) : (ReflectliteType.relation "AssignableTo" ReflectliteType.assignableTo #[.agg #[.pointer (some ⟨1, 35, none⟩)], .iface 185 (.agg #[.pointer (some ⟨1, 35, none⟩)])]).run Tryd.prog w = .ok (.bool true) w := by kernel_rfl
theorem xAsgEE  (h : Heap) : extH Tryd.prog 146 [.agg #[.pointer (some ⟨1, 35, none⟩)], .iface 185 (.agg #[.pointer (some ⟨1, 35, none⟩)])] h fun v h' => v = .bool true ∧ h' = h := fun w hw => ⟨_, _, ext_at Tryd.func146 (by kernel_rfl) (by kernel_rfl) (by kernel_rfl) (show Extern.find _ = some (ReflectliteType.relation "AssignableTo" ReflectliteType.assignableTo) by kernel_rfl) (asgEE' w), ⟨rfl, hw⟩, Rest.refl w⟩
theorem asgFE' (w : World) : (ReflectliteType.relation "AssignableTo" ReflectliteType.assignableTo #[.agg #[.pointer (some ⟨1, 163, none⟩)], .iface 185 (.agg #[.pointer (some ⟨1, 35, none⟩)])]).run Tryd.prog w = .ok (.bool false) w := by kernel_rfl
theorem xAsgFE  (h : Heap) : extH Tryd.prog 146 [.agg #[.pointer (some ⟨1, 163, none⟩)], .iface 185 (.agg #[.pointer (some ⟨1, 35, none⟩)])] h fun v h' => v = .bool false ∧ h' = h := fun w hw => ⟨_, _, ext_at Tryd.func146 (by kernel_rfl) (by kernel_rfl) (by kernel_rfl) (show Extern.find _ = some (ReflectliteType.relation "AssignableTo" ReflectliteType.assignableTo) by kernel_rfl) (asgFE' w), ⟨rfl, hw⟩, Rest.refl w⟩
theorem valPE' (t : Addr) (w : World) : (ReflectliteValue.unpack (.iface 108 (.pointer (some t)))).run Tryd.prog w = .ok (.agg #[.pointer (some ⟨1, 108, none⟩), .pointer (some ⟨w.heap.size, 0, none⟩), .int .u64 150]) (w.alloc (.cells #[.pointer (some t)] 108)) := by kernel_rfl
theorem xValPE (t : Addr) (h : Heap) : extH Tryd.prog 92 [.iface 108 (.pointer (some t))] h fun v h' => v = .agg #[.pointer (some ⟨1, 108, none⟩), .pointer (some ⟨h.size, 0, none⟩), .int .u64 150] ∧ h' = h.push (.cells #[.pointer (some t)] 108) := fun w hw => by
  subst hw; exact ⟨_, _, ext_at Tryd.func92 (by kernel_rfl) (by kernel_rfl) (by kernel_rfl) (show Extern.find _ = some (fun args => ReflectliteValue.unpack (args.getD 0 (.tuple #[]))) by kernel_rfl) (valPE' t w), ⟨rfl, rfl⟩, Rest.alloc w _⟩
theorem valE' (e : Int) (w : World) : (ReflectliteValue.unpack (.iface 35 (.int .i64 e))).run Tryd.prog w = .ok (.agg #[.pointer (some ⟨1, 35, none⟩), .pointer (some ⟨w.heap.size, 0, none⟩), .int .u64 130]) (w.alloc (.cells #[.int .i64 e] 35)) := by kernel_rfl
theorem xValE (e : Int) (h : Heap) : extH Tryd.prog 92 [.iface 35 (.int .i64 e)] h fun v h' => v = .agg #[.pointer (some ⟨1, 35, none⟩), .pointer (some ⟨h.size, 0, none⟩), .int .u64 130] ∧ h' = h.push (.cells #[.int .i64 e] 35) := fun w hw => by
  subst hw; exact ⟨_, _, ext_at Tryd.func92 (by kernel_rfl) (by kernel_rfl) (by kernel_rfl) (show Extern.find _ = some (fun args => ReflectliteValue.unpack (args.getD 0 (.tuple #[]))) by kernel_rfl) (valE' e w), ⟨rfl, rfl⟩, Rest.alloc w _⟩
theorem typePE' (q : Addr) (w : World) : (ReflectliteValue.methodAny (ReflectliteValue.valueError "reflectlite.Value.Type" 0) (fun t _ _ _ => ReflectliteType.toType t) #[.agg #[.pointer (some ⟨1, 108, none⟩), .pointer (some q), .int .u64 150]]).run Tryd.prog w = .ok (.iface 185 (.agg #[.pointer (some ⟨1, 108, none⟩)])) w := by kernel_rfl
theorem xTypePE (q : Addr) (h : Heap) : extH Tryd.prog 93 [.agg #[.pointer (some ⟨1, 108, none⟩), .pointer (some q), .int .u64 150]] h fun v h' => v = .iface 185 (.agg #[.pointer (some ⟨1, 108, none⟩)]) ∧ h' = h := fun w hw => ⟨_, _, ext_at Tryd.func93 (by kernel_rfl) (by kernel_rfl) (by kernel_rfl) (show Extern.find _ = some (ReflectliteValue.methodAny (ReflectliteValue.valueError "reflectlite.Value.Type" 0) (fun t _ _ _ => ReflectliteType.toType t)) by kernel_rfl) (typePE' q w), ⟨rfl, hw⟩, Rest.refl w⟩
theorem partsPE' (a : Addr) (w : World) : (ReflectliteValue.parts (.agg #[.pointer (some ⟨1, 108, none⟩), .pointer (some a), .int .u64 150])).run Tryd.prog w = .ok (some (108, a, 150)) w := by kernel_rfl
theorem isNilPE' (a p : Addr) (W : World) (ha : W.cell? a = some (.pointer (some p))) :
    (ReflectliteValue.method (ReflectliteValue.valueError "reflectlite.Value.IsNil" 0) ReflectliteValue.isNil #[.agg #[.pointer (some ⟨1, 108, none⟩), .pointer (some a), .int .u64 150]]).run Tryd.prog W = .ok (.bool false) W := by
  rw [rlm]
  simp only [Sem.run_bind, partsPE', Result.andThen]
  simp [ReflectliteValue.isNil, loadVar, isAgg, underlying, Tryd.underlying108, ha, Result.andThen]
theorem xIsNilPE (q p : Addr) (h : Heap) (hq : cellH h q = some (.pointer (some p))) : extH Tryd.prog 94 [.agg #[.pointer (some ⟨1, 108, none⟩), .pointer (some q), .int .u64 150]] h fun v h' => v = .bool false ∧ h' = h := fun w hw => ⟨_, _, ext_at Tryd.func94 (by kernel_rfl) (by kernel_rfl) (by kernel_rfl) (show Extern.find _ = some (ReflectliteValue.method (ReflectliteValue.valueError "reflectlite.Value.IsNil" 0) ReflectliteValue.isNil) by kernel_rfl) (isNilPE' q p w (by rw [hw_cell h w hw]; exact hq)), ⟨rfl, hw⟩, Rest.refl w⟩
theorem elemOfPE' (w : World) : (Rtype.elem? 108).run Tryd.prog w = .ok (some 35) w := by kernel_rfl
theorem mkE' (p : Addr) (w : World) : (ReflectliteValue.mk 35 p ReflectliteValue.flagAddr).run Tryd.prog w = .ok (.agg #[.pointer (some ⟨1, 35, none⟩), .pointer (some p), .int .u64 386]) w := by kernel_rfl
theorem elemVPE' (a p : Addr) (W : World) (ha : W.cell? a = some (.pointer (some p))) :
    (ReflectliteValue.method (ReflectliteValue.valueError "reflectlite.Value.Elem" 0) ReflectliteValue.elem #[.agg #[.pointer (some ⟨1, 108, none⟩), .pointer (some a), .int .u64 150]]).run Tryd.prog W = .ok (.agg #[.pointer (some ⟨1, 35, none⟩), .pointer (some p), .int .u64 386]) W := by
  rw [rlm]
  simp only [Sem.run_bind, partsPE', Result.andThen]
  simp [ReflectliteValue.elem, loadVar, isAgg, underlying, Tryd.underlying108, ha, Result.andThen, elemOfPE', mkE']
theorem xElemVPE (q p : Addr) (h : Heap) (hq : cellH h q = some (.pointer (some p))) : extH Tryd.prog 118 [.agg #[.pointer (some ⟨1, 108, none⟩), .pointer (some q), .int .u64 150]] h fun v h' => v = .agg #[.pointer (some ⟨1, 35, none⟩), .pointer (some p), .int .u64 386] ∧ h' = h := fun w hw => ⟨_, _, ext_at Tryd.func118 (by kernel_rfl) (by kernel_rfl) (by kernel_rfl) (show Extern.find _ = some (ReflectliteValue.method (ReflectliteValue.valueError "reflectlite.Value.Elem" 0) ReflectliteValue.elem) by kernel_rfl) (elemVPE' q p w (by rw [hw_cell h w hw]; exact hq)), ⟨rfl, hw⟩, Rest.refl w⟩
theorem partsEa' (a : Addr) (w : World) : (ReflectliteValue.parts (.agg #[.pointer (some ⟨1, 35, none⟩), .pointer (some a), .int .u64 386])).run Tryd.prog w = .ok (some (35, a, 386)) w := by kernel_rfl
theorem partsE' (a : Addr) (w : World) : (ReflectliteValue.parts (.agg #[.pointer (some ⟨1, 35, none⟩), .pointer (some a), .int .u64 130])).run Tryd.prog w = .ok (some (35, a, 130)) w := by kernel_rfl
theorem directE' (w : World) : (Rtype.directlyAssignable 35 35).run Tryd.prog w = .ok true w := by kernel_rfl
theorem setE' (ta b : Addr) (e : Int) (old : Value) (W : World) (hb : W.cell? b = some (.int .i64 e)) (ht : W.cell? ta = some old) (hf : W.frozen? ta = false) :
    (ReflectliteValue.set #[.agg #[.pointer (some ⟨1, 35, none⟩), .pointer (some ta), .int .u64 386], .agg #[.pointer (some ⟨1, 35, none⟩), .pointer (some b), .int .u64 130]]).run Tryd.prog W = .ok (.tuple #[]) (W.setCell ta (.int .i64 e)) := by
  rw [rls]
  simp only [Sem.run_bind, partsEa', partsE', Result.andThen]
  simp [ReflectliteValue.flagAddr, loadVar, isAgg, underlying, Tryd.underlying35, hb, Result.andThen, directE', storeVar, Value.cells, storeCells, Addr.add]
  rw [run_store Tryd.prog W ta _ _ (by rfl)]
  simp [ht, hf]
theorem xSetE (t : Nat) (b : Addr) (e : Int) (old : Value) (Ty : TypeId) (h : Heap) (hb : cellH h b = some (.int .i64 e)) (ht : Blk h t #[old] Ty) : extH Tryd.prog 119 [.agg #[.pointer (some ⟨1, 35, none⟩), .pointer (some ⟨t, 0, none⟩), .int .u64 386], .agg #[.pointer (some ⟨1, 35, none⟩), .pointer (some b), .int .u64 130]] h fun v h' => v = .tuple #[] ∧ Blk h' t #[.int .i64 e] Ty ∧ Only t h h' := fun w hw => by
  subst hw
  refine ⟨_, _, ext_at Tryd.func119 (by kernel_rfl) (by kernel_rfl) (by kernel_rfl) (show Extern.find _ = some (ReflectliteValue.set) by kernel_rfl) (setE' ⟨t, 0, none⟩ b e old w hb (by rw [cellH_eq, cellH_blk ht]; rfl) (by rw [frozenH_eq]; exact frozenH_blk ht)), ⟨rfl, ?_, ?_⟩, Rest.setCell _ _ _⟩
  · rw [setH_eq]; exact setH_blk (o := 0) (.int .i64 e) ht
  · rw [setH_eq]; exact setH_only (o := 0) _
theorem valF' (e : Addr) (w : World) : (ReflectliteValue.unpack (.iface 163 (.pointer (some e)))).run Tryd.prog w = .ok (.agg #[.pointer (some ⟨1, 163, none⟩), .pointer (some ⟨w.heap.size, 0, none⟩), .int .u64 150]) (w.alloc (.cells #[.pointer (some e)] 163)) := by kernel_rfl
theorem xValF (e : Addr) (h : Heap) : extH Tryd.prog 92 [.iface 163 (.pointer (some e))] h fun v h' => v = .agg #[.pointer (some ⟨1, 163, none⟩), .pointer (some ⟨h.size, 0, none⟩), .int .u64 150] ∧ h' = h.push (.cells #[.pointer (some e)] 163) := fun w hw => by
  subst hw; exact ⟨_, _, ext_at Tryd.func92 (by kernel_rfl) (by kernel_rfl) (by kernel_rfl) (show Extern.find _ = some (fun args => ReflectliteValue.unpack (args.getD 0 (.tuple #[]))) by kernel_rfl) (valF' e w), ⟨rfl, rfl⟩, Rest.alloc w _⟩
/-- A chain of faults, the outmost one first, and the code at its end (0: no error at all). -/
def ErrC (h : Heap) : Value → List (ByteArray × Int) → Int → Prop
  | v, [], c => v = errV c
  | v, (op, at_) :: l, c => c ≠ 0 ∧ ∃ b v', v = .iface 163 (.pointer (some ⟨b, 0, none⟩)) ∧ Blk h b #[.string op, .int .i64 at_, v'] 165 ∧ ErrC h v' l c
theorem ErrC.new {h h' : Heap} (n : New h h') : ∀ {v : Value} {l : List (ByteArray × Int)} {c : Int}, ErrC h v l c → ErrC h' v l c
  | _, [], _, e => e
  | _, (_, _) :: _, _, ⟨hc, b, v', e, hb, r⟩ => ⟨hc, b, v', e, hb.new n, r.new n⟩
theorem ErrC.ok {h : Heap} : ∀ {v : Value} {l : List (ByteArray × Int)} {c : Int}, ErrC h v l c → IsIf v ∧ isNilV v = decide (c = 0)
  | _, [], c, e => by subst e; exact ⟨errV_if c, errV_nil c⟩
  | _, (_, _) :: _, c, ⟨hc, b, v', e, _, _⟩ => by subst e; exact ⟨.inr ⟨_, _, rfl⟩, by simp [isNilV, hc]⟩
theorem hasAsE : hasB Tryd.prog 189 35 = some false := by kernel_rfl
theorem hasAsF : hasB Tryd.prog 189 163 = some false := by kernel_rfl
theorem hasUnE : hasB Tryd.prog 192 35 = some false := by kernel_rfl
theorem hasUnF : hasB Tryd.prog 192 163 = some true := by kernel_rfl
theorem hasUlE : hasB Tryd.prog 193 35 = some false := by kernel_rfl
theorem mUnw (p : Addr) (w : World) : (Go.method (Tryd.prog.types.size + Made.depth) 163 (.pointer (some p)) "Unwrap").run Tryd.prog w = .ok (144, .pointer (some p)) w := by kernel_rfl
theorem asI_t {P : Program} {t u : TypeId} {x : Value} {Y N : Prop} (h : hasB P t u = some true) (hY : Y) : asI P t (.iface u x) Y N := by simp only [asI, h]; exact hY
theorem asI_f {P : Program} {t u : TypeId} {x : Value} {Y N : Prop} (h : hasB P t u = some false) (hN : N) : asI P t (.iface u x) Y N := by simp only [asI, h]; exact hN
theorem unwrap_ok (b : Nat) (op : ByteArray) (at_ : Int) (v' : Value) (h : Heap) (hb : Blk h b #[.string op, .int .i64 at_, v'] 165) : CallsH Tryd.prog 144 [.pointer (some ⟨b, 0, none⟩)] h fun v h' => v = v' ∧ h' = h := by
  refine fun_ok hm' Tryd.func144 (by kernel_rfl) (F144_eq _ _ h) ?_
  unfold F144
  exact ld_of (c := .any) v' (by rw [add_mk, cellH_blk hb]; rfl) ⟨rfl, rfl⟩
end Go.Proofs.YthimfpkkdhpceaaDoor.Err
/-
  errors.As over chains of faults: at a code, at a fault.
-/
namespace Go.Proofs.YthimfpkkdhpceaaDoor.Err
open Go.RowKit Go.Extern.Stop Go.Stop Go.Extern Go.Pl Go.Proofs.YthimfpkkdhpceaaDoor.W Go.Proofs.YthimfpkkdhpceaaDoor.As
theorem errV_inj {c d : Int} (h : errV c = errV d) : c = d := by
  unfold errV at h
  split at h <;> split at h <;> simp_all
theorem errV_notF {c : Int} {a : Option Addr} (h : errV c = .iface 163 (.pointer a)) : False := by
  unfold errV at h
  split at h <;> simp_all
theorem ErrC.uniq {h : Heap} : ∀ {v : Value} {l l' : List (ByteArray × Int)} {c c' : Int}, ErrC h v l c → ErrC h v l' c' → l = l' ∧ c = c'
  | _, [], [], _, _, e, e' => ⟨rfl, errV_inj ((show _ = _ from e).symm.trans e')⟩
  | _, [], (_, _) :: _, _, _, e, ⟨_, _, _, e', _, _⟩ => (errV_notF ((show _ = _ from e).symm.trans e')).elim
  | _, (_, _) :: _, [], _, _, ⟨_, _, _, e', _, _⟩, e => (errV_notF ((show _ = _ from e).symm.trans e')).elim
  | _, (_, _) :: _, (_, _) :: _, _, _, ⟨_, b, v', e, hb, r⟩, ⟨_, b2, v2, e2, hb2, r2⟩ => by
    subst e
    injection e2 with _ e2
    injection e2 with e2
    injection e2 with e2
    injection e2 with e2
    subst e2
    have key := (show h[b]? = _ from hb).symm.trans hb2
    injection key with key
    injection key with key
    injection key with key
    injection key with k1 key
    injection key with k2 key
    injection key with k3 key
    injection k1 with k1
    injection k2 with _ k2
    subst k1 k2 k3
    obtain ⟨rfl, rfl⟩ := r.uniq r2
    exact ⟨rfl, rfl⟩
open Classical in
/-- How many faults a chain has. -/
noncomputable def lenE (h : Heap) (v : Value) : Nat := if e : ∃ p : List (ByteArray × Int) × Int, ErrC h v p.1 p.2 then (Classical.choose e).1.length else 0
theorem lenE_of {h : Heap} {v : Value} {l : List (ByteArray × Int)} {c : Int} (e : ErrC h v l c) : lenE h v = l.length := by
  have ex : ∃ p : List (ByteArray × Int) × Int, ErrC h v p.1 p.2 := ⟨(l, c), e⟩
  unfold lenE
  rw [dif_pos ex, ((Classical.choose_spec ex).uniq e).1]
abbrev rtE : Value := .iface 185 (.agg #[.pointer (some ⟨1, 35, none⟩)])
abbrev rtF : Value := .iface 185 (.agg #[.pointer (some ⟨1, 163, none⟩)])
set_option maxRecDepth 20000 in
theorem as_E (t : Nat) (tg : Value) (q : Nat) (Tq : TypeId) (old : Value) (T : TypeId) (v : Value) (l : List (ByteArray × Int)) (c : Int) (h : Heap) (hc : c ≠ 0) (he : ErrC h v l c) (ht : Blk h t #[old] T) (hq : Blk h q #[.pointer (some ⟨t, 0, none⟩)] Tq) :
    CallsH Tryd.prog 95 [v, tg, .agg #[.pointer (some ⟨1, 108, none⟩), .pointer (some ⟨q, 0, none⟩), .int .u64 150], rtE] h fun r h' => r = .bool true ∧ Blk h' t #[.int .i64 c] T ∧ Upd t h h' := by
  refine fun_ok hm' Tryd.func95 (by kernel_rfl) (F95_eq _ _ _ _ _ _ _ h) ?_
  unfold F95
  refine new_of fun h1 b1 n1 s1 => ?_
  refine ⟨fun (s : Value) h' => h' = h1 ∧ ∃ l', ErrC h1 s l' c, fun (s : Value) h' => lenE h' s, ⟨rfl, l, he.new n1⟩, ?_⟩
  rintro s _ h' ⟨hh, l', es⟩
  subst h'
  cases l' with
  | nil =>
    obtain rfl : s = .iface 35 (.int .i64 c) := (show s = errV c from es).trans (errV_ne hc)
    refine ext_of (xTypeOfE _ h1) ?_
    rintro r h2 ⟨rfl, hh⟩
    subst h2
    refine ⟨_, rfl, inv_of (mAsg _) (.inr (xAsgEE h1)) ?_⟩
    rintro r h2 ⟨rfl, hh⟩
    subst h2
    refine ⟨true, rfl, br_t rfl (ldAgg_blk (cs := [.ptr, .any, .int .u64]) (some ⟨1, 108, none⟩, .pointer (some ⟨q, 0, none⟩), (150 : Int)) b1 ⟨rfl, rfl, rfl, trivial⟩ ?_)⟩
    refine ext_of (xElemVPE ⟨q, 0, none⟩ ⟨t, 0, none⟩ h1 (by rw [cellH_blk (hq.new n1)]; rfl)) ?_
    rintro r h2 ⟨rfl, hh⟩
    subst h2
    refine ⟨(some _, .pointer (some _), (386 : Int)), rfl, ext_of (xValE c h1) ?_⟩
    rintro r h2 ⟨rfl, hh⟩
    subst h2
    refine ⟨(some _, .pointer (some _), (130 : Int)), rfl, ext_of (xSetE t ⟨h1.size, 0, none⟩ c old T _ (by rw [cellH_blk (Blk.push h1 _ _)]; rfl) ((ht.new n1).new (New.push _ _))) ?_⟩
    rintro r h3 ⟨rfl, b3, o3⟩
    exact ⟨(), rfl, rfl, b3, (n1.trans (New.push _ _)).upd.trans o3.upd⟩
  | cons p l'' =>
    obtain ⟨op, at_⟩ := p
    have es0 := es
    obtain ⟨_, b, v', rfl, hb, ev⟩ := es
    refine ext_of (xTypeOfF _ h1) ?_
    rintro r h2 ⟨rfl, hh⟩
    subst h2
    refine ⟨_, rfl, inv_of (mAsg _) (.inr (xAsgFE h1)) ?_⟩
    rintro r h2 ⟨rfl, hh⟩
    subst h2
    refine ⟨false, rfl, br_f rfl ?_⟩
    refine cut_q (fun _ h' => h' = h1) ?_ fun K17 k17 => ?_
    · rintro _ h' hh _
      subst h'
      refine cut_q (fun (s : Bool × Value) h' => s = (true, .iface 163 (.pointer (some ⟨b, 0, none⟩))) ∧ h' = h1) ?_ fun K27 k27 => ?_
      · rintro _ h' ⟨rfl, hh⟩ _
        subst h'
        refine br_t rfl (inv_of (mUnw _) (.inl (unwrap_ok b op at_ v' h1 hb)) ?_)
        rintro r h2 ⟨hr, hh⟩
        subst hr hh
        have ok := ev.ok
        refine ⟨_, rfl, ⟨ok.1, br_f (by rw [ok.2]; simp [hc]) ⟨⟨rfl, _, ev⟩, ?_⟩⟩⟩
        show lenE _ _ < lenE _ _
        rw [lenE_of ev, lenE_of es0]
        simp
      · exact asI_t hasUnF (k27 _ h1 ⟨rfl, rfl⟩)
    · refine cut_q (fun (s : Value × Bool) h' => s = (.nilIface, false) ∧ h' = h1) ?_ fun K18 k18 => ?_
      · rintro _ h' ⟨rfl, hh⟩ _
        subst h'
        exact br_f rfl (k17 () h1 rfl)
      · exact asI_f hasAsF (k18 _ h1 ⟨rfl, rfl⟩)
end Go.Proofs.YthimfpkkdhpceaaDoor.Err
/-
  errors.As over chains of faults, for the two kinds of targets. Printed by tools/mkerr3.py.
-/
namespace Go.Proofs.YthimfpkkdhpceaaDoor.Err
open Go.RowKit Go.Extern.Stop Go.Stop Go.Extern Go.Pl Go.Proofs.YthimfpkkdhpceaaDoor.W Go.Proofs.YthimfpkkdhpceaaDoor.As
theorem zeroRV : zeroC Tryd.prog 151 = #[.pointer none, .pointer none, .int .u64 0] := by kernel_rfl
set_option maxRecDepth 20000 in
theorem As_E (v : Value) (t : Nat) (h : Heap) (hv : IsIf v) (hn : isNilV v = false) (hg : Laid h) {R : Value → Heap → Prop}
    (hR : ∀ q h1, Blk h1 q #[.pointer (some ⟨t, 0, none⟩)] 108 → New h h1 → CallsH Tryd.prog 95 [v, .iface 108 (.pointer (some ⟨t, 0, none⟩)), .agg #[.pointer (some ⟨1, 108, none⟩), .pointer (some ⟨q, 0, none⟩), .int .u64 150], rtE] h1 fun r h' => (∃ b : Bool, r = .bool b) ∧ R r h') :
    CallsH Tryd.prog 61 [v, .iface 108 (.pointer (some ⟨t, 0, none⟩))] h R := by
  refine fun_ok hm' Tryd.func61 (by kernel_rfl) (F61_eq _ _ _ h) ?_
  unfold F61
  refine ⟨hv, br_f hn (cut_q (fun _ h' => h' = h) ?_ fun K1 k1 => ⟨.inr ⟨_, _, rfl⟩, br_f rfl (k1 () h rfl)⟩)⟩
  rintro _ h' hh _
  subst h'
  refine ext_of (xValPE ⟨t, 0, none⟩ h) ?_
  rintro r h1 ⟨rfl, hh⟩
  have hq : Blk h1 h.size #[.pointer (some ⟨t, 0, none⟩)] 108 := by subst h1; exact Blk.push _ _ _
  have n1 : New h h1 := by subst h1; exact New.push _ _
  clear hh
  refine ⟨(some _, .pointer (some _), (150 : Int)), rfl, new_of fun h2 b2 n2 s2 => ?_⟩
  rw [zeroRV] at b2
  simp only [oneC]
  refine stL_blk b2 (by simp) fun h3 b3 o3 => ?_
  have b3 : Blk h3 h1.size #[.pointer (some ⟨1, 108, none⟩), .pointer (some ⟨h.size, 0, none⟩), .int .u64 150] 151 := b3
  have n3 : New h1 h3 := o3.upd.new n2 (Nat.le_refl _)
  have hq3 := hq.new n3
  refine ldAgg_blk (cs := [.ptr, .any, .int .u64]) (some ⟨1, 108, none⟩, .pointer (some ⟨h.size, 0, none⟩), (150 : Int)) b3 ⟨rfl, rfl, rfl, trivial⟩ ?_
  refine ext_of (xTypePE ⟨h.size, 0, none⟩ h3) ?_
  rintro r h4 ⟨rfl, hh⟩
  subst h4
  refine ⟨_, rfl, cut_q (fun _ h' => h' = h3) ?_ fun K13 k13 => ?_⟩
  · rintro _ h' hh _
    subst h'
    refine inv_of (mElem _) (.inr (xElemE h3)) ?_
    rintro r h4 ⟨rfl, hh⟩
    subst h4
    refine ⟨_, rfl, cut_q (fun _ h' => h' = h3) ?_ fun K24 k24 => ?_⟩
    · rintro _ h' hh _
      subst h'
      refine ldAgg_blk (cs := [.ptr, .any, .int .u64]) (some ⟨1, 108, none⟩, .pointer (some ⟨h.size, 0, none⟩), (150 : Int)) b3 ⟨rfl, rfl, rfl, trivial⟩ ?_
      refine call_of (hR h.size h3 hq3 (n1.trans n3)) ?_
      rintro r h' ⟨⟨b, rfl⟩, k⟩
      exact ⟨b, rfl, k⟩
    · refine inv_of (mKind _) (.inr (xKindE h3)) ?_
      rintro r h4 ⟨rfl, hh⟩
      subst h4
      refine ⟨(2 : Int), rfl, br_t rfl (ld_of (c := .any) _ (hg.new (n1.trans n3)) (inv_of (mImpl _) (.inr (xImplE h3)) ?_))⟩
      rintro r h4 ⟨rfl, hh⟩
      subst h4
      exact ⟨true, rfl, br_f rfl (k24 () h3 rfl)⟩
  · refine inv_of (mKind _) (.inr (xKindPE h3)) ?_
    rintro r h4 ⟨rfl, hh⟩
    subst h4
    refine ⟨(22 : Int), rfl, br_f rfl (ldAgg_blk (cs := [.ptr, .any, .int .u64]) (some ⟨1, 108, none⟩, .pointer (some ⟨h.size, 0, none⟩), (150 : Int)) b3 ⟨rfl, rfl, rfl, trivial⟩ (ext_of (xIsNilPE ⟨h.size, 0, none⟩ ⟨t, 0, none⟩ h3 (by rw [cellH_blk hq3]; rfl)) ?_))⟩
    rintro r h4 ⟨rfl, hh⟩
    subst h4
    exact ⟨false, rfl, br_f rfl (k13 () h3 rfl)⟩
theorem asE_ok (t : Nat) (old : Value) (T : TypeId) (v : Value) (l : List (ByteArray × Int)) (c : Int) (h : Heap) (hg : Laid h) (hc : c ≠ 0) (he : ErrC h v l c) (ht : Blk h t #[old] T) :
    CallsH Tryd.prog 61 [v, .iface 108 (.pointer (some ⟨t, 0, none⟩))] h fun r h' => r = .bool true ∧ Blk h' t #[.int .i64 c] T ∧ Upd t h h' := by
  refine As_E v t h he.ok.1 (by rw [he.ok.2]; simp [hc]) hg fun q h1 hq n1 => (as_E t _ q _ old T v l c h1 hc (he.new n1) (ht.new n1) hq).mono ?_
  rintro r h' ⟨rfl, b, u⟩
  exact ⟨⟨_, rfl⟩, rfl, b, n1.upd.trans u⟩
end Go.Proofs.YthimfpkkdhpceaaDoor.Err
/-
  fault.Code and fault.Wrap over chains of faults.
-/
namespace Go.Proofs.YthimfpkkdhpceaaDoor.Err
open Go.RowKit Go.Extern.Stop Go.Stop Go.Extern Go.Pl Go.Proofs.YthimfpkkdhpceaaDoor.W Go.Proofs.YthimfpkkdhpceaaDoor.As
/-- fault.Code of any error: its code. -/
theorem code_ok (v : Value) (l : List (ByteArray × Int)) (c : Int) (h : Heap) (hg : Laid h) (he : ErrC h v l c) : CallsH Tryd.prog 19 [v] h fun r h' => r = .int .i64 c ∧ New h h' := by
  by_cases hc : c = 0
  · cases l with
    | nil =>
      have he : v = errV c := he
      subst he
      exact code_err c h hg
    | cons p l => obtain ⟨_, _⟩ := p; exact absurd hc he.1
  · refine fun_ok hm' Tryd.func19 (by kernel_rfl) (F19_eq _ _ h) ?_
    unfold F19
    rw [zeroE]
    refine new_of fun h1 b1 n1 s1 => ?_
    refine call_of (asE_ok h.size _ _ v l c h1 (hg.new n1) hc (he.new n1) b1) ?_
    rintro r h2 ⟨rfl, b2, u2⟩
    exact ⟨true, rfl, br_t rfl (ld_of (c := .int .i64) c (by rw [cellH_blk b2]; rfl) ⟨rfl, u2.new n1 (Nat.le_refl _)⟩)⟩
theorem builtF (op : ByteArray) (at_ : Int) {v : Value} (hv : IsIf v) : (Program.built Tryd.prog 165 [(0, .string op), (1, .int .i64 at_), (2, v)]) = some #[.string op, .int .i64 at_, v] := by
  rcases hv with rfl | ⟨t, u, rfl⟩
  · kernel_rfl
  · kernel_rfl
/-- fault.Wrap of what is no error. -/
theorem wrap_nil (op : ByteArray) (at_ : Int) (h : Heap) : CallsH Tryd.prog 67 [.string op, .int .i64 at_, .nilIface] h fun r h' => r = .nilIface ∧ h' = h := by
  refine fun_ok hm' Tryd.func67 (by kernel_rfl) (F67_eq _ _ _ _ h) ?_
  unfold F67
  refine cut_q (fun _ _ => False) (fun _ _ hf => hf.elim) fun K1 k1 => ?_
  exact ⟨.inl rfl, br_t rfl ⟨rfl, rfl⟩⟩
theorem wrap_zero (op : ByteArray) (at_ : Int) (h : Heap) : CallsH Tryd.prog 67 [.string op, .int .i64 at_, .iface 35 (.int .i64 0)] h fun r h' => r = .nilIface ∧ h' = h := by
  refine fun_ok hm' Tryd.func67 (by kernel_rfl) (F67_eq _ _ _ _ h) ?_
  unfold F67
  refine cut_q (fun _ _ => False) (fun _ _ hf => hf.elim) fun K1 k1 => ?_
  refine ⟨.inr ⟨_, _, rfl⟩, br_f rfl (cut_q (fun (s : Bool × Int) h' => s = (true, (0 : Int)) ∧ h' = h) ?_ fun K2 k2 => ?_)⟩
  · rintro _ h' ⟨rfl, hh⟩ _
    subst h'
    exact br_t rfl (br_t rfl ⟨rfl, rfl⟩)
  · exact ⟨(0 : Int), rfl, k2 _ h ⟨rfl, rfl⟩⟩
theorem wrap_ok (op : ByteArray) (at_ : Int) (v : Value) (l : List (ByteArray × Int)) (c : Int) (h : Heap) (hc : c ≠ 0) (he : ErrC h v l c) :
    CallsH Tryd.prog 67 [.string op, .int .i64 at_, v] h fun r h' => ErrC h' r ((op, at_) :: l) c ∧ New h h' := by
  refine fun_ok hm' Tryd.func67 (by kernel_rfl) (F67_eq _ _ _ _ h) ?_
  unfold F67
  have ok := he.ok
  refine cut_q (fun _ h' => h' = h) ?_ fun K1 k1 => ?_
  · rintro _ h' hh _
    subst h'
    refine ⟨(op, at_, v), builtF op at_ ok.1, new_of fun h1 b1 n1 _ => ?_⟩
    exact ⟨⟨hc, h.size, v, rfl, b1, he.new n1⟩, n1⟩
  · refine ⟨ok.1, br_f (by rw [ok.2]; simp [hc]) ?_⟩
    cases l with
    | nil =>
      obtain rfl : v = .iface 35 (.int .i64 c) := (show v = errV c from he).trans (errV_ne hc)
      refine cut_q (fun (s : Bool × Int) h' => s = (true, c) ∧ h' = h) ?_ fun K2 k2 => ?_
      · rintro _ h' ⟨rfl, hh⟩ _
        subst h'
        exact br_t rfl (br_f (by simpa using hc) (k1 () h rfl))
      · exact ⟨c, rfl, k2 _ h ⟨rfl, rfl⟩⟩
    | cons p l =>
      obtain ⟨_, _⟩ := p
      obtain ⟨_, b, v', rfl, _, _⟩ := he
      refine cut_q (fun (s : Bool × Int) h' => s = (false, (0 : Int)) ∧ h' = h) ?_ fun K2 k2 => ?_
      · rintro _ h' ⟨rfl, hh⟩ _
        subst h'
        exact br_f rfl (k1 () h rfl)
      · exact k2 _ h ⟨rfl, rfl⟩
end Go.Proofs.YthimfpkkdhpceaaDoor.Err
/-
  The contracts of package media.
-/
namespace Go.Proofs.YthimfpkkdhpceaaDoor.Med
open Go.Pl Go.Proofs.YthimfpkkdhpceaaDoor.W Go.Proofs.YthimfpkkdhpceaaDoor.Byts Go.Proofs.YthimfpkkdhpceaaDoor.As Go.Proofs.YthimfpkkdhpceaaDoor.Err Go.Proofs.YthimfpkkdhpceaaDoor.Head Go.Proofs.YthimfpkkdhpceaaDoor.HdP Go.Proofs.YthimfpkkdhpceaaDoor.Zns Go.Proofs.YthimfpkkdhpceaaDoor.ZnsP Go.Proofs.YthimfpkkdhpceaaDoor.Geo
abbrev geoV (z p g : Int) : Value := .agg #[.int .i64 z, .int .i64 p, .int .i64 g]
theorem wrap_v (op : ByteArray) (at_ c : Int) (h : Heap) : CallsH Tryd.prog 67 [.string op, .int .i64 at_, errV c] h fun r h' => ∃ l, ErrC h' r l c ∧ New h h' := by
  by_cases hc : c = 0
  · subst hc
    refine (wrap_nil op at_ h).mono ?_
    rintro r h' ⟨rfl, hh⟩; subst h'
    exact ⟨[], rfl, New.refl _⟩
  · refine (wrap_ok op at_ (errV c) [] c h hc rfl).mono ?_
    rintro r h' ⟨e, n⟩
    exact ⟨_, e, n⟩
theorem since {k b : Nat} {t : Tags} {h0 h h' : Heap} {D' : Dev} (n : New h0 h) (a : Acted k t h b D' h') : Acted k t h0 b D' h' := by
  obtain ⟨t', r, f⟩ := a
  exact ⟨t', r, (Fr.new0 n).trans f⟩
theorem till {k b : Nat} {t : Tags} {h h1 h2 : Heap} {D' : Dev} (a : Acted k t h b D' h1) (n : New h1 h2) : Acted k t h b D' h2 := by
  obtain ⟨t', r, f⟩ := a
  exact ⟨t', r.new n, f.trans (Fr.new0 n)⟩
theorem stays {k b : Nat} {t : Tags} {h : Heap} {D : Dev} (r : PRep k t h b D) : Acted k t h b D h := ⟨t, r, Fr.refl _ _ _⟩
theorem put_ok {k b : Nat} {t : Tags} {D : Dev} {z p : Int} (hk : k ≠ 0) (gk : GOk z p D) (g zone : Int) (x : Hd) (hx : HdOk x) (ba : Option Addr) (bc : Nat) (bs : List Int) (h : Heap) (r : PRep k t h b D) (s : Sl8 h ba bc bs) :
    CallsH Tryd.prog 29 [ptr b, geoV z p g, .int .i64 zone, hdV x, .slice ba bs.length bc] h fun v h' => ∃ e l, v = .tuple #[.int .u32 (putM z p D zone x bs).2.1, e] ∧ ErrC h' e l (putM z p D zone x bs).2.2 ∧ Acted k t h b (putM z p D zone x bs).1 h' := by
  refine fun_ok Geo.hm' Tryd.func29 (by kernel_rfl) (F29_eq _ _ _ _ _ _ _ _ _ _ _ _ _ h) ?_
  unfold F29
  refine new_of fun h1 b1 n1 s1 => new_of fun h2 b2 n2 s2 => ldAgg_blk (z, p, g) (b1.new n2) ⟨rfl, rfl, rfl, trivial⟩ (call_of (Geo.of_ok z p g zone 0 h2 gk.zr gk.pr) ?_)
  rintro v h3 ⟨rfl, n3⟩
  have n03 := (n1.trans n2).trans n3
  refine ⟨_, rfl, br_of (fun hz => ?_) (fun hz => ?_)⟩
  · have hz : ofF z p zone 0 = 0 := by simpa using hz
    have hp : putM z p D zone x bs = (D, 0, 1) := by unfold putM; rw [if_pos hz]
    refine call_of (wrap_v _ zone 1 h3) ?_
    rintro v h4 ⟨l, he, n4⟩
    rw [hp]
    exact ⟨_, rfl, v, l, rfl, he, till (stays r) (n03.trans n4)⟩
  have hz : ¬ ofF z p zone 0 = 0 := by simpa using hz
  refine ldAgg_blk x (b2.new n3) ⟨rfl, rfl, rfl, rfl, trivial⟩ (call_of (Head.bytes_ok x hx ba bc bs h3 (s.new n03)) ?_)
  rintro v h4 ⟨a4, c4, rfl, g4, _⟩
  have n04 := n03.trans g4.new
  refine ⟨((a4, (bytesF x bs).1.length, c4), errV (bytesF x bs).2), rfl, errV_if _, br_of (fun he => ?_) (fun he => ?_)⟩
  · have he : (bytesF x bs).2 ≠ 0 := by simpa [errV_nil] using he
    have hp : putM z p D zone x bs = (D, 0, (bytesF x bs).2) := by unfold putM; rw [if_neg hz, if_pos he]
    refine call_of (wrap_v _ zone (bytesF x bs).2 h4) ?_
    rintro v h5 ⟨l, hl, n5⟩
    rw [hp]
    exact ⟨_, rfl, v, l, rfl, hl, till (stays r) (n04.trans n5)⟩
  have he : (bytesF x bs).2 = 0 := by simpa [errV_nil] using he
  have hlen : (bytesF x bs).1.length ≤ 1000 := by
    rcases bytesF_cases x bs with ⟨_, _, hl, e⟩ | ⟨h1, _⟩
    · rw [e]; have := pageL_len x hl; simp only []; omega
    · exact (h1 he).elim
  have im4 : Im .u8 (lay t h.size (0, 0)) h4 a4 (bytesF x bs).1 := ⟨g4.ar, fun hx q hq => by have := g4.at_ hx q hq; have := n03.size; rw [lay_ge (by omega)]⟩
  have r4 := PRep.lay r n04
  refine call_of (append_ok gk.ok zone a4 c4 (bytesF x bs).1 h4 r4 hlen im4) ?_
  rintro v h5 ⟨rfl, ac5'⟩
  have ac5 : Acted k t h b (D.append zone (bytesF x bs).1).1 h5 := Acted.before ac5' n04
  refine ⟨((D.append zone (bytesF x bs).1).2.1, errV (D.append zone (bytesF x bs).1).2.2), rfl, errV_if _, br_of (fun hf => ?_) (fun hf => ?_)⟩
  · have hf : (D.append zone (bytesF x bs).1).2.2 ≠ 0 := by simpa [errV_nil] using hf
    have hp : putM z p D zone x bs = ((D.append zone (bytesF x bs).1).1, 0, (D.append zone (bytesF x bs).1).2.2) := by unfold putM; rw [if_neg hz, if_neg (by simpa using he), if_pos hf]
    refine call_of (wrap_v _ zone (D.append zone (bytesF x bs).1).2.2 h5) ?_
    rintro v h6 ⟨l, hl, n6⟩
    rw [hp]
    exact ⟨_, rfl, v, l, rfl, hl, till ac5 n6⟩
  have hf : (D.append zone (bytesF x bs).1).2.2 = 0 := by simpa [errV_nil] using hf
  have hp : putM z p D zone x bs = ((D.append zone (bytesF x bs).1).1, ofF z p zone (D.append zone (bytesF x bs).1).2.1, 0) := by unfold putM; rw [if_neg hz, if_neg (by simpa using he), if_neg (by simpa using hf)]
  obtain ⟨t5, r5, f5⟩ := ac5'
  have b5 : Blk h5 h.size #[.int .i64 z, .int .i64 p, .int .i64 g] 24 := f5.blk (((b1.new n2).new n3).new g4.new) (by rw [lay_ge (Nat.le_refl _)]; exact fun e => hk e.symm)
  refine ldAgg_blk (z, p, g) b5 ⟨rfl, rfl, rfl, trivial⟩ (call_of (Geo.of_ok z p g zone _ h5 gk.zr gk.pr) ?_)
  rintro v h6 ⟨rfl, n6⟩
  rw [hp]
  exact ⟨_, rfl, .nilIface, [], rfl, rfl, till ac5 n6⟩
/-- A row stays where a block of another type is turned. -/
theorem got_only {h0 h h' : Heap} {g c : Nat} {a : Option Addr} {xs : List Int} {arr : Array Value} {T : TypeId} (r : Got .u8 5 h0 h a c xs) (hb : Blk h g arr T) (hT : T ≠ 5) (hg : g < h0.size) (o : Only g h h') : RowS h' 5 1 a xs.length c (xs.map (Value.int .u8)) := by
  rcases r.row with r' | ⟨h1, h2, h3, hb', hc⟩
  · refine .inl (r'.keep fun b cur _ hbb _ => o.same b fun e => ?_)
    subst e
    have h1 : h[b]? = _ := hb
    rw [show h[b]? = _ from hbb] at h1
    injection h1 with h1
    injection h1 with _ h1
    exact hT h1.symm
  · refine .inr ⟨h1, h2, h3, hb', fun j u hu => ?_⟩
    obtain ⟨q, q2, e1, hl, hc'⟩ := hc j u hu
    have hx : xs ≠ [] := fun e => by subst e; simp at hu
    have := r.at_ hx q (by rw [e1]; rfl)
    exact ⟨q, q2, e1, by rw [o.size]; exact hl, by rw [cellH_same (o.same q (by omega))]; exact hc'⟩
theorem errs {h h' : Heap} {g : Nat} {arr : Array Value} {T : TypeId} (hb : Blk h g arr T) (hT : T ≠ 165) (o : Only g h h') : ∀ {l : List (ByteArray × Int)} {v : Value} {c : Int}, ErrC h v l c → ErrC h' v l c
  | [], _, _, e => e
  | (_, _) :: _, _, _, ⟨hc, b, v', e1, e2, e3⟩ => ⟨hc, b, v', e1, e2.only o fun e => by
      subst e
      have h1 : h[b]? = _ := hb
      rw [show h[b]? = _ from e2] at h1
      injection h1 with h1
      injection h1 with _ h1
      exact hT h1.symm, errs hb hT o e3⟩
theorem read_byt {D : Dev} (o : DevOk D) (n q : Int) : Byt (D.read n q).1 := by
  unfold Dev.read
  split
  · exact fun x hx => by cases hx
  split
  · exact fun x hx => by cases hx
  split
  · exact fun x hx => by cases hx
  split
  · exact fun x hx => by cases hx
  · rw [List.getD_eq_getElem?_getD]
    cases hq : (D.at_ n).pages[q.toNat]? with
    | none => exact fun x hx => by cases hx
    | some pg => exact ((o.at_ n).page pg (List.mem_of_getElem? hq)).1
theorem get_ok {k b : Nat} {t : Tags} {D : Dev} {z p : Int} (gk : GOk z p D) (g a : Int) (ha : 0 ≤ a ∧ a < 4294967296) (h : Heap) (r : PRep k t h b D) :
    CallsH Tryd.prog 105 [ptr b, geoV z p g, .int .u32 a] h fun v h' => ∃ ba bc e l, v = .tuple #[hdV (getM z p D a).1, .slice ba (getM z p D a).2.1.length bc, e] ∧ ErrC h' e l (getM z p D a).2.2 ∧ Got .u8 5 h h' ba bc (getM z p D a).2.1 := by
  refine fun_ok Geo.hm' Tryd.func105 (by kernel_rfl) (F105_eq _ _ _ _ _ _ h) ?_
  unfold F105
  rw [zeroH]
  refine new_of fun h1 b1 n1 s1 => new_of fun h2 b2 n2 s2 => ldAgg_blk (z, p, g) (b1.new n2) ⟨rfl, rfl, rfl, trivial⟩ (call_of (Geo.at_ok z p g a h2 gk.zr gk.pr ha) ?_)
  rintro v h3 ⟨rfl, n3⟩
  have n03 := (n1.trans n2).trans n3
  have b3 : Blk h3 h1.size #[.int .u8 0, .int .u32 0, .int .u32 0, .int .u32 0] 65 := b2.new n3
  refine ⟨((atF z p a).1, (atF z p a).2.1, (atF z p a).2.2), rfl, br_of (fun hz => ?_) (fun hz => ?_)⟩
  · have hz : (atF z p a).2.2 = false := by simpa using hz
    have hp : getM z p D a = (hd0, [], 1) := by unfold getM; rw [if_pos hz]
    refine call_of (wrap_v _ _ 1 h3) ?_
    rintro v h4 ⟨l, he, n4⟩
    refine ⟨v, rfl, stL_blk (b3.new n4) (Nat.le_refl 4) fun h5 b5 o5 => ?_⟩
    rw [setsA_all (by rfl)] at b5
    have n5 : New h h5 := o5.upd.new (n03.trans n4) (by omega)
    refine ldAgg_blk hd0 b5 ⟨rfl, rfl, rfl, rfl, trivial⟩ ?_
    rw [hp]
    exact ⟨none, 0, v, l, rfl, errs (b3.new n4) (by decide) o5 he, Got.nil _ _ n5⟩
  have hz : (atF z p a).2.2 = true := by simpa using hz
  refine call_of (read_ok gk.ok (atF z p a).1 (atF z p a).2.1 h3 (r.new n03)) ?_
  rintro v h4 ⟨a4, c4, rfl, g4⟩
  refine ⟨((a4, (D.read (atF z p a).1 (atF z p a).2.1).1.length, c4), errV (D.read (atF z p a).1 (atF z p a).2.1).2), rfl, errV_if _, br_of (fun he => ?_) (fun he => ?_)⟩
  · have he : (D.read (atF z p a).1 (atF z p a).2.1).2 ≠ 0 := by simpa [errV_nil] using he
    have hp : getM z p D a = (hd0, [], (D.read (atF z p a).1 (atF z p a).2.1).2) := by unfold getM; rw [if_neg (by rw [hz]; simp), if_pos he]
    refine call_of (wrap_v _ _ (D.read (atF z p a).1 (atF z p a).2.1).2 h4) ?_
    rintro v h5 ⟨l, hl, n5⟩
    have b5 := (b3.new g4.new).new n5
    refine ⟨v, rfl, stL_blk b5 (Nat.le_refl 4) fun h6 b6 o6 => ?_⟩
    rw [setsA_all (by rfl)] at b6
    have n6 : New h h6 := o6.upd.new ((n03.trans g4.new).trans n5) (by omega)
    refine ldAgg_blk hd0 b6 ⟨rfl, rfl, rfl, rfl, trivial⟩ ?_
    rw [hp]
    exact ⟨none, 0, v, l, rfl, errs b5 (by decide) o6 hl, Got.nil _ _ n6⟩
  have he : (D.read (atF z p a).1 (atF z p a).2.1).2 = 0 := by simpa [errV_nil] using he
  have hp : getM z p D a = readF (D.read (atF z p a).1 (atF z p a).2.1).1 := by unfold getM; rw [if_neg (by rw [hz]; simp), if_neg (by simpa using he)]
  have hbyt : Byt (D.read (atF z p a).1 (atF z p a).2.1).1 := read_byt gk.ok _ _
  rw [hp]
  generalize (D.read (atF z p a).1 (atF z p a).2.1).1 = pg at g4 hbyt ⊢
  refine call_of (Head.read_ok a4 c4 pg h4 (Sl8.got g4 hbyt)) ?_
  rintro v h5 ⟨a5, c5, rfl, g5⟩
  refine ⟨((readF pg).1, (a5, (readF pg).2.1.length, c5), errV (readF pg).2.2), rfl, new_stL rfl fun h6 b6 n6 s6 => ldAgg_blk (readF pg).1 b6 ⟨rfl, rfl, rfl, rfl, trivial⟩ (call_of (wrap_v _ _ (readF pg).2.2 h6) ?_)⟩
  rintro v h7 ⟨l, hl, n7⟩
  have b7 := b6.new n7
  have n47 := (g4.new.trans g5.new).trans (n6.trans n7)
  have b37 := b3.new n47
  refine ⟨v, rfl, by rw [add_mk, cellH_blk b7]; rfl, by rw [add_mk, cellH_blk b7]; rfl, by rw [add_mk, cellH_blk b7]; rfl, by rw [add_mk, cellH_blk b7]; rfl, stL_blk b37 (Nat.le_refl 4) fun h8 b8 o8 => ?_⟩
  rw [setsA_all (by rfl)] at b8
  refine ldAgg_blk (readF pg).1 b8 ⟨rfl, rfl, rfl, rfl, trivial⟩ ?_
  have g7 : Got .u8 5 h4 h7 a5 c5 (readF pg).2.1 := g5.after (n6.trans n7)
  have hlt := b3.lt
  have hs4 := g4.new.size
  refine ⟨a5, c5, v, l, rfl, errs b37 (by decide) o8 hl, ⟨got_only g7 b37 (by decide) (by have := b3.lt; omega) o8, o8.upd.new (n03.trans n47) (by omega), fun hx q hq => by have := g5.at_ hx q hq; have := n03.size; omega⟩⟩
/- GOING THROUGH ALL ADDRESSES. -/
theorem yield_of {P : Program} {T : Ty} {l : Nat} {args : List Value} {F : T.T → Heap → Prop} {h : Heap} {R : Bool → Heap → Prop} (hY : YieldH P l args h R) (hR : ∀ b h', R b h' → ∃ s : T.T, Value.bool b = T.val s ∧ F s h') : callW P T (.func (.yield l) #[] #[]) args F h := YieldH.mono hY hR
def preZ (p : Int) (D : Dev) (n : Nat) : List Int := (List.range n).flatMap (addrs p D)
def preI (p : Int) (D : Dev) (n i : Nat) : List Int := preZ p D n ++ (List.range i).map fun (j : Nat) => (n : Int) * p + j + 1
theorem preI_zero (p : Int) (D : Dev) (n : Nat) : preI p D n 0 = preZ p D n := by simp [preI]
theorem preI_succ (p : Int) (D : Dev) (n i : Nat) : preI p D n (i + 1) = preI p D n i ++ [(n : Int) * p + i + 1] := by unfold preI; rw [List.range_succ, List.map_append, ← List.append_assoc]; rfl
theorem preZ_succ (p : Int) (D : Dev) (n : Nat) : preZ p D (n + 1) = preI p D n (D.point (n : Int)) := by
  unfold preZ preI
  rw [List.range_succ, List.flatMap_append]
  unfold preZ addrs
  simp
theorem preI_len {z p : Int} {D : Dev} (g : GOk z p D) (n i : Nat) : (preI p D n i).length ≤ n * 16 + i := by
  have hz : ∀ n, (preZ p D n).length ≤ n * 16 := fun n => by
    induction n with
    | zero => simp [preZ]
    | succ n ih =>
      have := g.pt (n : Int)
      have := g.pr
      rw [preZ_succ]
      unfold preI
      rw [List.length_append, List.length_map, List.length_range]; omega
  have := hz n
  unfold preI
  rw [List.length_append, List.length_map, List.length_range]; omega
structure Sees (k : Nat) (h : Heap) (c0 c1 b : Nat) (z p g : Int) (D : Dev) : Prop where
  geo : Blk h c0 #[.int .i64 z, .int .i64 p, .int .i64 g] 24
  ptr : cellH h ⟨c1, 0, none⟩ = some (ptr b)
  dev : ∃ t, PRep k t h b D
/- SCAN. -/
def pgV (y : Pg) : List Value := [.int .u32 y.1, .int .u8 y.2.1, .int .u32 y.2.2.1, .int .u32 y.2.2.2.1, .int .u32 y.2.2.2.2]
def pgs (l : List Pg) : List Value := (l.map pgV).flatten
theorem pgs_app (l : List Pg) (y : Pg) : pgs (l ++ [y]) = pgs l ++ pgV y := by simp [pgs]
theorem pgs_len (l : List Pg) : (pgs l).length = l.length * 5 := by
  induction l with
  | nil => rfl
  | cons z l ih =>
    have : pgs (z :: l) = pgV z ++ pgs l := rfl
    rw [this, List.length_append, ih, List.length_cons, show (pgV z).length = 5 from rfl]; omega
theorem pgs_get (l : List Pg) : ∀ (i : Nat) (y : Pg), l[i]? = some y → ∀ j, j < 5 → (pgs l)[i * 5 + j]? = (pgV y)[j]? := by
  induction l with
  | nil => intro i y hy; simp at hy
  | cons z l ih =>
    intro i y hy j hj
    have e : pgs (z :: l) = pgV z ++ pgs l := rfl
    have hl : (pgV z).length = 5 := rfl
    rw [e]
    cases i with
    | zero =>
      obtain rfl : z = y := by simpa using hy
      rw [List.getElem?_append_left (by rw [hl]; omega), Nat.zero_mul, Nat.zero_add]
    | succ i =>
      rw [List.getElem?_append_right (by rw [hl]; omega), hl, ← ih i y (by simpa using hy) j hj]
      congr 1; omega
theorem pgs_cell {l : List Pg} {u : Value} (hu : u ∈ pgs l) : u.oneCell' = true := by
  unfold pgs at hu
  rw [List.mem_flatten] at hu
  obtain ⟨w, hw, hu⟩ := hu
  obtain ⟨y, _, rfl⟩ := List.mem_map.1 hw
  unfold pgV at hu
  simp only [List.mem_cons, List.not_mem_nil, or_false] at hu
  rcases hu with rfl | rfl | rfl | rfl | rfl <;> rfl
/-- Going on, with a list in the variable B. -/
structure JL (B : Nat) (TL TE : TypeId) (size : Nat) (len : List Int → Nat) (vs : List Int → List Value) (hq : Heap) (l : Nat) (pre : List Int) (h' : Heap) : Prop where
  sizes : hq.size ≤ h'.size
  same : ∀ b, b < hq.size → b ≠ B → b ≠ l → h'[b]? = hq[b]?
  var : ∃ a lc, Blk h' B #[.slice a (len pre) lc] TL ∧ OwnH h' hq.size TE size a (len pre) lc (vs pre)
  lB : B < l
  lq : l < hq.size
theorem JL.only {B l size : Nat} {TL TE : TypeId} {len : List Int → Nat} {vs : List Int → List Value} {hq h1 h2 : Heap} {pre : List Int} (j : JL B TL TE size len vs hq l pre h1) (o : Only l h1 h2) : JL B TL TE size len vs hq l pre h2 := by
  obtain ⟨a, lc, hb, ow⟩ := j.var
  have hl := j.lB
  have hq := j.lq
  exact ⟨by rw [o.size]; exact j.sizes, fun b hb h1 h2 => (o.same b h2).trans (j.same b hb h1 h2), ⟨a, lc, hb.only o (by omega), ow.keep fun g _ hg _ _ => o.same g (by omega)⟩, hl, hq⟩
theorem JL.new {B l size : Nat} {TL TE : TypeId} {len : List Int → Nat} {vs : List Int → List Value} {hq h1 h2 : Heap} {pre : List Int} (j : JL B TL TE size len vs hq l pre h1) (o : New h1 h2) : JL B TL TE size len vs hq l pre h2 := by
  obtain ⟨a, lc, hb, ow⟩ := j.var
  have hs := j.sizes
  exact ⟨Nat.le_trans hs o.size, fun b hb h1 h2 => (o.same b (by omega)).trans (j.same b hb h1 h2), ⟨a, lc, hb.new o, ow.keep fun g _ _ hg _ => o.same g hg.lt⟩, j.lB, j.lq⟩
theorem JL.dev {k b B l size : Nat} {t : Tags} {D : Dev} {TL TE : TypeId} {len : List Int → Nat} {vs : List Int → List Value} {h hq h1 : Heap} {pre : List Int} (r : PRep k t h b D) (n : New h hq) (j : JL B TL TE size len vs hq l pre h1) (hB : h.size ≤ B) : PRep k (lay t h.size (0, 0)) h1 b D := by
  have hl := j.lB
  exact r.fr (S := fun _ => True) ⟨Nat.le_trans n.size j.sizes, fun c hc => lay_lt hc, fun c hc _ => (j.same c (Nat.lt_of_lt_of_le hc n.size) (by omega) (by omega)).trans (n.same c hc)⟩ (fun _ _ => trivial) fun _ => trivial
theorem JL.stay {B l size : Nat} {TL TE : TypeId} {len : List Int → Nat} {vs : List Int → List Value} {hq h1 : Heap} {pre : List Int} {x : Int} (j : JL B TL TE size len vs hq l pre h1) (hl : len (pre ++ [x]) = len pre) (hv : vs (pre ++ [x]) = vs pre) : JL B TL TE size len vs hq l (pre ++ [x]) h1 := by
  refine ⟨j.sizes, j.same, ?_, j.lB, j.lq⟩
  rw [hl, hv]; exact j.var
theorem JL.grown {B l size n' : Nat} {TL TE : TypeId} {len : List Int → Nat} {vs : List Int → List Value} {hq h1 h2 : Heap} {pre : List Int} {x : Int} {a a' : Option Addr} {lc c' : Nat} {F : Heap → Prop} (j : JL B TL TE size len vs hq l pre h1) (hb : Blk h1 B #[.slice a (len pre) lc] TL) (ow : OwnH h1 hq.size TE size a (len pre) lc (vs pre))
    (u : UpdO (blkOf a) h1 h2) (hl : len (pre ++ [x]) = n') (o2 : OwnH h2 hq.size TE size a' n' c' (vs (pre ++ [x]))) (hF : ∀ h3, JL B TL TE size len vs hq l (pre ++ [x]) h3 → F h3) : stW ⟨B, 0, none⟩ (.slice a' n' c') F h2 := by
  subst hl
  have hBl := j.lB
  have hlq := j.lq
  have hs := j.sizes
  have hga : ∀ g, blkOf a = some g → hq.size ≤ g := fun g hg => by
    rcases ow.row.2 with ⟨rfl, _⟩ | ⟨g', cur, rfl, hg', _⟩
    · cases hg
    · injection hg with hg; change g' = g at hg; omega
  have b2 : Blk h2 B #[.slice a (len pre) lc] TL := (u.same B hb.lt (fun e => by have := hga B e.symm; omega)).trans hb
  refine st_blk b2 (by simp) fun h3 b3 o3 => hF h3 ⟨by rw [o3.size]; have := u.size; omega, fun b hb h1 h2 => ?_, ⟨a', c', b3, o2.keep fun g _ hg _ _ => o3.same g (by omega)⟩, hBl, hlq⟩
  rw [o3.same b h1, u.same b (by omega) (fun e => by have := hga b e.symm; omega), j.same b hb h1 h2]
theorem Tk_blk {n : Nat} {h h' : Heap} (t : Taken n h h') {b : Nat} {arr : Array Value} {T : TypeId} (hb : Blk h b arr T) : h'[b]? = h[b]? := by
  rcases t.same b with e | ⟨_, e, _⟩
  · exact e
  · have hb' : h[b]? = some (.cells arr T) := hb
    rw [e] at hb'; cases hb'
theorem Tk_low {n : Nat} {h h' : Heap} (t : Taken n h h') {b : Nat} (hb : b < n) : h'[b]? = h[b]? := by
  rcases t.same b with e | ⟨h1, _⟩
  · exact e
  · omega
theorem fl_le (z p : Int) (D : Dev) (l : List Int) : (l.flatMap (scan1 z p D)).length ≤ l.length := by
  induction l with
  | nil => simp
  | cons x l ih =>
    rw [List.flatMap_cons, List.length_append, List.length_cons]
    have : (scan1 z p D x).length ≤ 1 := by unfold scan1; split <;> simp
    omega
end Go.Proofs.YthimfpkkdhpceaaDoor.Med
/-
  The formulas of package body. Each formula checked by the kernel. Printed by a program of this repo.
-/
namespace Go.Proofs.YthimfpkkdhpceaaDoor.W
open Go.Pl

-- function 31
set_option maxRecDepth 100000 in
def F31 (l_0_0 : Int) (l_0_1 : Int) (l_0_2 : Int) (l_0_3 : Int) (K : Value → Heap → Prop) (h0 : Heap) : Prop := (
  newW (.cells #[.int .u32 l_0_0, .int .u32 l_0_1, .int .u32 l_0_2, .int .u32 l_0_3] 72) (fun a1 h2 =>
  mkW Tryd.prog 5 (16 : Int) (16 : Int) (fun b3 n4 c5 h6 =>
  loopT [.sc (.int .i64)] (fun (s8 : Int) _ (K7 : Int → Heap → Prop) h9 =>
  br (decide (s8 < (16 : Int)))
  (idxW (IntKind.wrap .i64 (Int.tdiv s8 (4 : Int))) 4 true (ldW (.int .u32) (Addr.add a1 (Int.toNat (IntKind.wrap .i64 (Int.tdiv s8 (4 : Int))) * 1)) (fun (x10 : Int) =>
  ckB (decide (0 ≤ (IntKind.wrap .i64 ((8 : Int) * (Int.tmod s8 (4 : Int)))))) (ptrW b3 (fun a11 =>
  idxW s8 n4 true (stW (Addr.add a11 (Int.toNat s8 * 1)) (.int .u8 (IntKind.wrap .u8 (Int.fdiv x10 (2 ^ (min ((IntKind.wrap .i64 ((8 : Int) * (Int.tmod s8 (4 : Int))))).toNat 32))))) (fun h12 =>
  K7 (IntKind.wrap .i64 (s8 + (1 : Int))) h12) h9)))) h9))
  (K (.slice b3 n4 c5) h9)) (0 : Int) h6) h2) h0)
set_option maxRecDepth 100000 in
theorem F31_eq (l_0_0 : Int) (l_0_1 : Int) (l_0_2 : Int) (l_0_3 : Int) (K : Value → Heap → Prop) (h0 : Heap) : funWE Tryd.prog 31 (.seq (.leaf) (.seq (.leaf) (.seq (.seq (.leaf) (.block (.loop [(6, .sc (.int .i64))] (.seq (.leaf) (.seq (.cond (.leaf) (.leaf)) (.seq (.block (.seq (.leaf) (.leaf))) (.leaf))))))) (.seq (.leaf) (.leaf))))) [.agg #[.int .u32 l_0_0, .int .u32 l_0_1, .int .u32 l_0_2, .int .u32 l_0_3]] K h0 = F31 l_0_0 l_0_1 l_0_2 l_0_3 K h0 := by kernel_rfl

-- function 96
set_option maxRecDepth 100000 in
def F96 (block_0 : Option Addr) (block_0l _block_0c : Nat) (K : Value → Heap → Prop) (h0 : Heap) : Prop := (
  newW (.cells (zeroC Tryd.prog 72) 72) (fun a1 h2 =>
  newW (.cells (zeroC Tryd.prog 72) 72) (fun a3 h4 =>
  br ((((block_0l : Nat) : Int)) != (16 : Int))
  (ldAggW [.int .u32, .int .u32, .int .u32, .int .u32] a3 (fun (x5 : Int × Int × Int × Int) =>
  stLW a1 [.int .u32 x5.1, .int .u32 x5.2.1, .int .u32 x5.2.2.1, .int .u32 x5.2.2.2] (fun h6 =>
  ldAggW [.int .u32, .int .u32, .int .u32, .int .u32] a1 (fun (x7 : Int × Int × Int × Int) =>
  K (.tuple #[.agg #[.int .u32 x7.1, .int .u32 x7.2.1, .int .u32 x7.2.2.1, .int .u32 x7.2.2.2], .iface 35 (.int .i64 3)]) h6) h6) h4) h4)
  (loopT [.sc (.int .i64)] (fun (s9 : Int) _ (K8 : Int → Heap → Prop) h10 =>
  br (decide (s9 < (16 : Int)))
  (idxW (IntKind.wrap .i64 (Int.tdiv s9 (4 : Int))) 4 true (ldW (.int .u32) (Addr.add a3 (Int.toNat (IntKind.wrap .i64 (Int.tdiv s9 (4 : Int))) * 1)) (fun (x11 : Int) =>
  ptrW block_0 (fun a12 =>
  idxW s9 block_0l true (ldW (.int .u8) (Addr.add a12 (Int.toNat s9 * 1)) (fun (x13 : Int) =>
  ckB (decide (0 ≤ (IntKind.wrap .i64 ((8 : Int) * (Int.tmod s9 (4 : Int)))))) (idxW (IntKind.wrap .i64 (Int.tdiv s9 (4 : Int))) 4 true (stW (Addr.add a3 (Int.toNat (IntKind.wrap .i64 (Int.tdiv s9 (4 : Int))) * 1)) (.int .u32 (IntKind.wrap .u32 (((BitVec.ofInt 32 x11 ||| BitVec.ofInt 32 (IntKind.wrap .u32 ((IntKind.wrap .u32 x13) * 2 ^ (min ((IntKind.wrap .i64 ((8 : Int) * (Int.tmod s9 (4 : Int))))).toNat 32)))).toNat : Int)))) (fun h14 =>
  K8 (IntKind.wrap .i64 (s9 + (1 : Int))) h14) h10))) h10))) h10))
  (ldAggW [.int .u32, .int .u32, .int .u32, .int .u32] a3 (fun (x15 : Int × Int × Int × Int) =>
  stLW a1 [.int .u32 x15.1, .int .u32 x15.2.1, .int .u32 x15.2.2.1, .int .u32 x15.2.2.2] (fun h16 =>
  ldAggW [.int .u32, .int .u32, .int .u32, .int .u32] a1 (fun (x17 : Int × Int × Int × Int) =>
  K (.tuple #[.agg #[.int .u32 x17.1, .int .u32 x17.2.1, .int .u32 x17.2.2.1, .int .u32 x17.2.2.2], .nilIface]) h16) h16) h10) h10)) (0 : Int) h4)) h2) h0)
set_option maxRecDepth 100000 in
theorem F96_eq (block_0 : Option Addr) (block_0l block_0c : Nat) (K : Value → Heap → Prop) (h0 : Heap) : funWE Tryd.prog 96 (.seq (.leaf) (.seq (.leaf) (.seq (.seq (.leaf) (.cond (.seq (.leaf) (.leaf)) (.leaf))) (.seq (.seq (.leaf) (.block (.loop [(11, .sc (.int .i64))] (.seq (.leaf) (.seq (.cond (.leaf) (.leaf)) (.seq (.block (.seq (.leaf) (.draw (odp [0, 1, 2, 3, 4, 5, 6, 7, 8, 9, 10, 11, 12, 13, 14, 15] .nil) []))) (.leaf))))))) (.seq (.leaf) (.leaf)))))) [.slice block_0 block_0l block_0c] K h0 = F96 block_0 block_0l block_0c K h0 := by kernel_rfl

end Go.Proofs.YthimfpkkdhpceaaDoor.W
/-
  The contracts of package body.
-/
namespace Go.Proofs.YthimfpkkdhpceaaDoor.Body
open Go.Pl Go.Proofs.YthimfpkkdhpceaaDoor.W Go.Proofs.YthimfpkkdhpceaaDoor.Four Go.Proofs.YthimfpkkdhpceaaDoor.As
/-- Four addresses. -/
abbrev Pls := Int × Int × Int × Int
def word (l : Pls) : Nat → Int
  | 0 => l.1 | 1 => l.2.1 | 2 => l.2.2.1 | _ => l.2.2.2
def plsV (l : Pls) : Value := .agg #[.int .u32 l.1, .int .u32 l.2.1, .int .u32 l.2.2.1, .int .u32 l.2.2.2]
def PlsOk (l : Pls) : Prop := ∀ j, 0 ≤ word l j ∧ word l j < 4294967296
/-- The bytes of four addresses. -/
def plsB (l : Pls) : List Int := (List.range 16).map fun j => byteAt (word l (j / 4)) (j % 4)
theorem plsB_eq (l : Pls) : plsB l = four l.1 ++ four l.2.1 ++ four l.2.2.1 ++ four l.2.2.2 := by
  simp [plsB, List.range, List.range.loop, word, byteAt, four]
theorem plsB_len (l : Pls) : (plsB l).length = 16 := by simp [plsB]
/-- What bytes say. -/
def bys (xs : List Int) (i : Nat) : Int := xs.getD i 0
def wordOf (xs : List Int) (j : Nat) : Int := back4 (bys xs (4 * j)) (bys xs (4 * j + 1)) (bys xs (4 * j + 2)) (bys xs (4 * j + 3))
def plsOf (xs : List Int) : Pls := (wordOf xs 0, wordOf xs 1, wordOf xs 2, wordOf xs 3)
def Byt (xs : List Int) : Prop := ∀ x ∈ xs, 0 ≤ x ∧ x < 256
theorem Byt.get {xs : List Int} (h : Byt xs) (i : Nat) : 0 ≤ bys xs i ∧ bys xs i < 256 := by
  unfold bys
  rw [List.getD_eq_getElem?_getD]
  cases hi : xs[i]? with
  | none => simp
  | some x => exact h x (List.mem_of_getElem? hi)
theorem u8_wf {x : Int} (h : (Lit.int .u8 x).wf = true) : 0 ≤ x ∧ x < 256 := by
  simp [Lit.wf, IntKind.min, IntKind.max, IntKind.bits, IntKind.signed] at h; omega
theorem u32_wf {x : Int} (h : (Lit.int .u32 x).wf = true) : 0 ≤ x ∧ x < 4294967296 := by
  simp [Lit.wf, IntKind.min, IntKind.max, IntKind.bits, IntKind.signed] at h; omega
theorem Byt.wf {xs : List Int} (h : ∀ x ∈ xs, (Lit.int .u8 x).wf = true) : Byt xs := fun x hx => u8_wf (h x hx)
theorem plsB_byt (l : Pls) : Byt (plsB l) := by
  intro x hx
  simp only [plsB, List.mem_map] at hx
  obtain ⟨j, _, rfl⟩ := hx
  exact byteAt_range _ _
theorem plsOf_ok {xs : List Int} (h : Byt xs) : PlsOk (plsOf xs) := by
  intro j
  have k : ∀ j, 0 ≤ wordOf xs j ∧ wordOf xs j < 4294967296 := fun j => back_range (h.get _) (h.get _) (h.get _) (h.get _)
  match j with
  | 0 => exact k 0
  | 1 => exact k 1
  | 2 => exact k 2
  | n + 3 => exact k 3
theorem plsOf_plsB {l : Pls} (h : PlsOk l) : plsOf (plsB l) = l := by
  have k : ∀ j, j < 4 → wordOf (plsB l) j = word l j := by
    intro j hj
    have e : ∀ t, t < 4 → bys (plsB l) (4 * j + t) = byteAt (word l j) t := by
      intro t ht
      have h1 : (4 * j + t) / 4 = j := by omega
      have h2 : (4 * j + t) % 4 = t := by omega
      simp [bys, plsB, List.getD_eq_getElem?_getD, List.getElem?_map, List.getElem?_range (show 4 * j + t < 16 by omega), h1, h2]
    have e0 := e 0 (by omega)
    unfold wordOf
    rw [show 4 * j = 4 * j + 0 from rfl, e 0 (by omega), show 4 * j + 0 + 1 = 4 * j + 1 from rfl, e 1 (by omega), show 4 * j + 0 + 2 = 4 * j + 2 from rfl, e 2 (by omega), show 4 * j + 0 + 3 = 4 * j + 3 from rfl, e 3 (by omega)]
    have := back_four (h j)
    simpa [byteAt] using this
  have k0 := k 0 (by omega); have k1 := k 1 (by omega); have k2 := k 2 (by omega); have k3 := k 3 (by omega)
  simp only [plsOf, k0, k1, k2, k3]; rfl
theorem plsB_plsOf {xs : List Int} (hb : Byt xs) (hl : xs.length = 16) : plsB (plsOf xs) = xs := by
  apply List.ext_getElem?
  intro i
  by_cases hi : i < 16
  · have e1 : (plsB (plsOf xs))[i]? = some (byteAt (word (plsOf xs) (i / 4)) (i % 4)) := by simp [plsB, List.getElem?_map, List.getElem?_range hi]
    have e2 : word (plsOf xs) (i / 4) = wordOf xs (i / 4) := by
      have : i / 4 < 4 := by omega
      match i / 4, this with
      | 0, _ => rfl
      | 1, _ => rfl
      | 2, _ => rfl
      | 3, _ => rfl
    have e3 : byteAt (wordOf xs (i / 4)) (i % 4) = bys xs (4 * (i / 4) + i % 4) := by
      have h0 := hb.get (4 * (i / 4)); have h1 := hb.get (4 * (i / 4) + 1); have h2 := hb.get (4 * (i / 4) + 2); have h3 := hb.get (4 * (i / 4) + 3)
      have hf := four_back h0 h1 h2 h3
      have hm : i % 4 < 4 := by omega
      have hg := four_get (wordOf xs (i / 4)) hm
      unfold wordOf at hg ⊢
      rw [hf] at hg
      match i % 4, hm, hg with
      | 0, _, hg => injection hg with hg; exact hg.symm
      | 1, _, hg => injection hg with hg; exact hg.symm
      | 2, _, hg => injection hg with hg; exact hg.symm
      | 3, _, hg => injection hg with hg; exact hg.symm
    rw [e1, e2, e3, show 4 * (i / 4) + i % 4 = i by omega]
    simp [bys, List.getD_eq_getElem?_getD, List.getElem?_eq_getElem (show i < xs.length by omega)]
  · rw [List.getElem?_eq_none (by rw [plsB_len]; omega), List.getElem?_eq_none (by omega)]
theorem size5 : sizeN Tryd.prog 5 = 1 := by kernel_rfl
theorem zero5 : zeroC Tryd.prog 5 = #[.int .u8 0] := by kernel_rfl
theorem bytes5 : bytesN Tryd.prog 5 = 1 := by kernel_rfl
theorem zeroP : zeroC Tryd.prog 72 = #[.int .u32 0, .int .u32 0, .int .u32 0, .int .u32 0] := by kernel_rfl
def wordsA (f : Nat → Int) : Array Value := #[.int .u32 (f 0), .int .u32 (f 1), .int .u32 (f 2), .int .u32 (f 3)]
theorem wordsA_get (f : Nat → Int) {j : Nat} (hj : j < 4) : (wordsA f)[j]? = some (.int .u32 (f j)) := by
  match j, hj with
  | 0, _ => rfl
  | 1, _ => rfl
  | 2, _ => rfl
  | 3, _ => rfl
theorem wordsA_set (f : Nat → Int) {j : Nat} (hj : j < 4) (x : Int) : (wordsA f).setIfInBounds j (.int .u32 x) = wordsA fun i => if i = j then x else f i := by
  match j, hj with
  | 0, _ => rfl
  | 1, _ => rfl
  | 2, _ => rfl
  | 3, _ => rfl
theorem div4 (i : Nat) : Int.tdiv (i : Int) 4 = ((i / 4 : Nat) : Int) := tdiv_nat (k := 4)
theorem mod4 (i : Nat) : Int.tmod (i : Int) 4 = ((i % 4 : Nat) : Int) := tmod_nat (k := 4)
theorem ofPlaces_ok (l : Pls) (h : Heap) : CallsH Tryd.prog 31 [plsV l] h fun v h' => Fresh .u8 5 h h' v (plsB l) := by
  refine fun_ok hm' Tryd.func31 (by kernel_rfl) (F31_eq _ _ _ _ _ h) ?_
  unfold F31
  refine new_of fun h1 b1 n1 s1 => mk_of (n := 16) size5 zero5 (by rw [bytes5]; omega) (by omega) fun h2 b2 n2 s2 => ?_
  rw [← fillA_zero 16 (fun j => .int .u8 (byteAt (word l (j / 4)) (j % 4)))] at b2
  have b1 : Blk h1 h.size (wordsA (word l)) 72 := b1
  refine ⟨fun (s : Int) h' => ∃ i : Nat, s = i ∧ i ≤ 16 ∧ Blk h' h1.size (fillA 16 (fun j => .int .u8 (byteAt (word l (j / 4)) (j % 4))) i (.int .u8 0)) 5 ∧ Upd h1.size h2 h', fun (s : Int) _ => (16 - s).toNat, ⟨0, rfl, by omega, b2, Upd.refl _ _⟩, ?_⟩
  rintro s j h3 ⟨i, rfl, hi, b3, u3⟩
  have b1' := (b1.new n2).upd u3 (by omega)
  refine br_of (fun hlt => ?_) (fun hlt => ?_)
  · have hlt : i < 16 := by simp at hlt; omega
    rw [div4, mod4, wr64 (n := ((i / 4 : Nat) : Int)) (by omega) (by omega), wr64 (n := 8 * ((i % 4 : Nat) : Int)) (by omega) (by omega), wr64 (n := (i : Int) + 1) (by omega) (by omega)]
    refine ⟨⟨by omega, rfl⟩, ld_of (c := .int .u32) (word l (i / 4)) ?_ (ck_t (decide_eq_true (by omega)) (ptr_of ⟨⟨by omega, rfl⟩, ?_⟩))⟩
    · rw [Int.toNat_natCast, Nat.mul_one, add_mk, cellH_blk b1', Nat.zero_add]; exact wordsA_get _ (by omega)
    · rw [shr_byte _ (i % 4) (by omega) rfl]
      simp only [add_mk, Int.toNat_natCast, Nat.mul_one, Nat.zero_add]
      refine st_blk b3 (by rw [fillA_size]; omega) fun h4 b4 o4 => ?_
      rw [fillA_set 16 _ i _ _ rfl] at b4
      exact ⟨⟨i + 1, by omega, by omega, b4, u3.trans o4.upd⟩, by omega⟩
  · have hi : i = 16 := by simp at hlt; omega
    subst hi
    have n3 := u3.new (n1.trans n2) (by omega)
    refine ⟨_, 16, by rw [plsB_len], ?_, n3⟩
    rw [fillA_full] at b3
    have := OwnH.of_blk (base := h.size) (n := 16) (size := 1) b3 (by omega) (by simp) (by simp [maxLen])
    rw [plsB_len]
    have e : (plsB l).map (Value.int .u8) = ((List.range 16).map fun j => Value.int .u8 (byteAt (word l (j / 4)) (j % 4))) := by simp [plsB]
    rw [e]; exact this
/-- The first m of four bytes, as a number. -/
def accW (f : Nat → Int) : Nat → Int
  | 0 => 0
  | m + 1 => accW f m + f m * 256 ^ m
theorem accW_nat {f : Nat → Int} (hf : ∀ t, 0 ≤ f t ∧ f t < 256) : ∀ m, 0 ≤ accW f m ∧ accW f m < 256 ^ m
  | 0 => by simp [accW]
  | m + 1 => by
    have := accW_nat hf m
    have h1 := hf m
    have hp : (0 : Int) < 256 ^ m := Int.pow_pos (by omega)
    have h2 : f m * 256 ^ m ≤ 255 * 256 ^ m := Int.mul_le_mul_of_nonneg_right (by omega) (by omega)
    have h3 : 0 ≤ f m * 256 ^ m := Int.mul_nonneg (by omega) (by omega)
    simp only [accW, Int.pow_succ]; omega
theorem accW_four (f : Nat → Int) : accW f 4 = back4 (f 0) (f 1) (f 2) (f 3) := by
  show 0 + f 0 * 1 + f 1 * 256 + f 2 * 65536 + f 3 * 16777216 = _
  unfold back4; omega
theorem toPlaces_short (a : Option Addr) (n c : Nat) (h : Heap) (hn : n ≠ 16) : CallsH Tryd.prog 96 [.slice a n c] h fun v h' => v = .tuple #[plsV (0, 0, 0, 0), errV 3] ∧ New h h' := by
  refine fun_ok hm' Tryd.func96 (by kernel_rfl) (F96_eq _ _ _ _ h) ?_
  unfold F96
  rw [zeroP]
  refine new_of fun h1 b1 n1 s1 => new_of fun h2 b2 n2 s2 => br_t (by simp; omega) ?_
  refine ldAgg_blk ((0 : Int), (0 : Int), (0 : Int), (0 : Int)) b2 ⟨rfl, rfl, rfl, rfl, trivial⟩ ?_
  refine stL_blk (b1.new n2) (by simp) fun h3 b3 o3 => ldAgg_blk ((0 : Int), (0 : Int), (0 : Int), (0 : Int)) b3 ⟨rfl, rfl, rfl, rfl, trivial⟩ ⟨rfl, o3.upd.new (n1.trans n2) (by omega)⟩
theorem toPlaces_ok (a : Option Addr) (c : Nat) (xs : List Int) (h : Heap) (hl : xs.length = 16) (hb : Byt xs) (r : Ar .u8 h a xs) : CallsH Tryd.prog 96 [.slice a 16 c] h fun v h' => v = .tuple #[plsV (plsOf xs), errV 0] ∧ New h h' := by
  refine fun_ok hm' Tryd.func96 (by kernel_rfl) (F96_eq _ _ _ _ h) ?_
  unfold F96
  rw [zeroP]
  refine new_of fun h1 b1 n1 s1 => new_of fun h2 b2 n2 s2 => br_f (by simp) ?_
  let st : Nat → Nat → Int := fun i j => accW (fun t => bys xs (4 * j + t)) (min 4 (i - 4 * j))
  refine ⟨fun (s : Int) h' => ∃ i : Nat, s = i ∧ i ≤ 16 ∧ Blk h' h1.size (wordsA (st i)) 72 ∧ Upd h1.size h2 h', fun (s : Int) _ => (16 - s).toNat, ⟨0, rfl, by omega, ?_, Upd.refl _ _⟩, ?_⟩
  · have : wordsA (st 0) = #[.int .u32 0, .int .u32 0, .int .u32 0, .int .u32 0] := by simp [st, wordsA, accW]
    rw [this]; exact b2
  rintro s j h3 ⟨i, rfl, hi, b3, u3⟩
  have n3 := u3.new (n1.trans n2) (by omega)
  have r3 := r.new n3
  refine br_of (fun hlt => ?_) (fun hlt => ?_)
  · have hlt : i < 16 := by simp at hlt; omega
    rw [div4, mod4, wr64 (n := ((i / 4 : Nat) : Int)) (by omega) (by omega), wr64 (n := 8 * ((i % 4 : Nat) : Int)) (by omega) (by omega), wr64 (n := (i : Int) + 1) (by omega) (by omega)]
    refine ⟨⟨by omega, rfl⟩, ld_of (c := .int .u32) (st i (i / 4)) ?_ ?_⟩
    · rw [Int.toNat_natCast, Nat.mul_one, add_mk, cellH_blk b3, Nat.zero_add]; exact wordsA_get _ (by omega)
    refine ix_ld r3 (by omega) hlt (ck_t (decide_eq_true (by omega)) ⟨⟨by omega, rfl⟩, ?_⟩)
    simp only [add_mk, Int.toNat_natCast, Nat.mul_one, Nat.zero_add]
    refine st_blk b3 (by show _ < 4; omega) fun h4 b4 o4 => ?_
    rw [wordsA_set _ (by omega)] at b4
    refine ⟨⟨i + 1, by omega, by omega, ?_, u3.trans o4.upd⟩, by omega⟩
    have hby : ∀ t, 0 ≤ bys xs (4 * (i / 4) + t) ∧ bys xs (4 * (i / 4) + t) < 256 := fun t => hb.get _
    have e0 : xs[i] = bys xs (4 * (i / 4) + i % 4) := by
      rw [show 4 * (i / 4) + i % 4 = i by omega]; simp [bys, List.getD_eq_getElem?_getD, List.getElem?_eq_getElem (show i < xs.length by omega)]
    have key : (fun k => if k = i / 4 then IntKind.wrap .u32 (((BitVec.ofInt 32 (st i (i / 4)) ||| BitVec.ofInt 32 (IntKind.wrap .u32 (IntKind.wrap .u32 xs[i] * 2 ^ (min (8 * ((i % 4 : Nat) : Int)).toNat 32)))).toNat : Int)) else st i k) = st (i + 1) := by
      funext k
      by_cases hk : k = i / 4
      · subst hk
        rw [if_pos rfl, e0]
        have hst : st i (i / 4) = accW (fun t => bys xs (4 * (i / 4) + t)) (i % 4) := by
          show accW _ (min 4 (i - 4 * (i / 4))) = _
          rw [show min 4 (i - 4 * (i / 4)) = i % 4 by omega]
        have hst' : st (i + 1) (i / 4) = accW (fun t => bys xs (4 * (i / 4) + t)) (i % 4 + 1) := by
          show accW _ (min 4 (i + 1 - 4 * (i / 4))) = _
          rw [show min 4 (i + 1 - 4 * (i / 4)) = i % 4 + 1 by omega]
        rw [hst, hst']
        obtain ⟨h0, hlt'⟩ := accW_nat hby (i % 4)
        obtain ⟨h0', hlt''⟩ := hby (i % 4)
        simp only [accW]
        generalize accW (fun t => bys xs (4 * (i / 4) + t)) (i % 4) = A at h0 hlt' ⊢
        generalize bys xs (4 * (i / 4) + i % 4) = B at h0' hlt'' ⊢
        obtain ⟨A, rfl⟩ := Int.eq_ofNat_of_zero_le h0
        obtain ⟨B, rfl⟩ := Int.eq_ofNat_of_zero_le h0'
        rw [or_byte (n := A) (c := B) (i := i % 4) (by omega) (Int.ofNat_lt.1 (by rw [Int.natCast_pow]; exact hlt')) (by omega) rfl]
        simp
      · rw [if_neg hk]
        show accW _ (min 4 (i - 4 * k)) = accW _ (min 4 (i + 1 - 4 * k))
        rw [show min 4 (i - 4 * k) = min 4 (i + 1 - 4 * k) by omega]
    rw [key] at b4; exact b4
  · have hi : i = 16 := by simp at hlt; omega
    subst hi
    have e : wordsA (st 16) = wordsA (word (plsOf xs)) := by
      have : ∀ j, j < 4 → st 16 j = wordOf xs j := by
        intro j hj
        show accW _ (min 4 (16 - 4 * j)) = _
        rw [show min 4 (16 - 4 * j) = 4 by omega, accW_four]; rfl
      simp only [wordsA, this 0 (by omega), this 1 (by omega), this 2 (by omega), this 3 (by omega)]; rfl
    rw [e] at b3
    refine ldAgg_blk (plsOf xs) b3 ⟨rfl, rfl, rfl, rfl, trivial⟩ ?_
    refine stL_blk ((b1.new n2).upd u3 (by omega)) (Nat.le_refl 4) fun h4 b4 o4 => ldAgg_blk (plsOf xs) b4 ⟨rfl, rfl, rfl, rfl, trivial⟩ ⟨rfl, o4.upd.new n3 (by omega)⟩
theorem pls_eq (x y : Pls) : ∀ w, (Op.equal 72 (plsV x) (plsV y)).run Tryd.prog w = .ok (decide (x = y)) w := by
  intro w
  obtain ⟨x0, x1, x2, x3⟩ := x
  obtain ⟨y0, y1, y2, y3⟩ := y
  have hU : Tryd.prog.underlying 72 = some (.array 4 22) := by kernel_rfl
  have hI : (Tryd.prog.info? 22).isSome = true := by kernel_rfl
  obtain ⟨i, hi⟩ := Option.isSome_iff_exists.1 hI
  have hc : Tryd.prog.cellsOf 22 = 1 := by kernel_rfl
  have u3 := Tryd.underlying22
  have a3 := Tryd.isAgg22
  have z3 := Tryd.sizeOf22
  show ((Op.equalIn (9999 + 1) 72 (.agg _) (.agg _)).run _ _) = _
  rw [run_equalIn_array w 9999 _ _ hU hi, hc]
  show ((Op.eqItems 9999 22 1 _ _ [0, 1, 2, 3]).run _ _) = _
  simp only [Op.eqItems]
  go_simp
  by_cases h1 : x0 = y0 <;> by_cases h2 : x1 = y1 <;> by_cases h3 : x2 = y2 <;> by_cases h4 : x3 = y3 <;> simp [h1, h2, h3, h4]
end Go.Proofs.YthimfpkkdhpceaaDoor.Body
/-
  The formulas of errors.Is and fault.Is. Each formula checked by the kernel. Printed by a program of this repo.
-/
namespace Go.Proofs.YthimfpkkdhpceaaDoor.W
open Go.Pl

-- function 74
set_option maxRecDepth 100000 in
def F74 (err_0 : Value) (target_1 : Value) (K : Value → Heap → Prop) (h0 : Heap) : Prop := (
  cutT [] (fun (K1 : Unit → Heap → Prop) h4 =>
  ifW err_0 (br (isNilV err_0)
  (eqIf Tryd.prog 32 err_0 target_1 (fun b2 =>
  K (.bool b2) h4) )
  (ifW target_1 (br (isNilV target_1)
  (eqIf Tryd.prog 32 err_0 target_1 (fun b3 =>
  K (.bool b3) h4) )
  (K1 () h4))))) (fun (_s5 : Unit) _ h6 =>
  callT Tryd.prog 106 [target_1] [.sc .any] (fun (r7 : Value) h8 =>
  invW Tryd.prog (.sc .bool) r7 "Comparable" [] (fun (x9 : Bool) h10 =>
  callT Tryd.prog 107 [err_0, target_1, .bool x9] [.sc .bool] (fun (r11 : Bool) h12 =>
  K (.bool r11) h12) h10) h8) h6) h0)
set_option maxRecDepth 100000 in
theorem F74_eq (err_0 : Value) (target_1 : Value) (K : Value → Heap → Prop) (h0 : Heap) : funWE Tryd.prog 74 (.seq (.leaf) (.cut [] (.seq (.leaf) (.cond (.seq (.leaf) (.leaf)) (.leaf))) (.seq (.leaf) (.seq (.leaf) (.leaf))))) [err_0, target_1] K h0 = F74 err_0 target_1 K h0 := by kernel_rfl

-- function 107
set_option maxRecDepth 100000 in
def F107 (err_0 : Value) (target_1 : Value) (targetComparable_2 : Bool) (K : Value → Heap → Prop) (h0 : Heap) : Prop := (
  loopT [.sc .any] (fun (s2 : Value) _ (K1 : Value → Heap → Prop) h3 =>
  cutT [] (fun (K4 : Unit → Heap → Prop) h6 =>
  br targetComparable_2
  (eqIf Tryd.prog 32 s2 target_1 (fun b5 =>
  br b5
  (K (.bool true) h6)
  (K4 () h6)) )
  (K4 () h6)) (fun (_s7 : Unit) _ h8 =>
  cutT [] (fun (K9 : Unit → Heap → Prop) h16 =>
  cutT [.sc .any, .sc .bool] (fun (K10 : (Value × Bool) → Heap → Prop) h11 =>
  asI Tryd.prog 198 s2
  (K10 (s2, true) h11)
  (K10 ((.nilIface : Value), false) h11)) (fun (s12 : Value × Bool) _ h13 =>
  br s12.2
  (invW Tryd.prog (.sc .bool) s12.1 "Is" [target_1] (fun (x14 : Bool) h15 =>
  br x14
  (K (.bool true) h15)
  (K9 () h15)) h13)
  (K9 () h13)) h16) (fun (_s17 : Unit) _ h18 =>
  cutT [.sc .bool, .sc .any] (fun (K19 : (Bool × Value) → Heap → Prop) h20 =>
  asI Tryd.prog 192 s2
  (K19 (true, s2) h20)
  (K19 (false, (.nilIface : Value)) h20)) (fun (s21 : Bool × Value) _ h22 =>
  br s21.1
  (invW Tryd.prog (.sc .any) s21.2 "Unwrap" [] (fun (x23 : Value) h24 =>
  ifW x23 (br (isNilV x23)
  (K (.bool false) h24)
  (K1 x23 h24))) h22)
  (cutT [.sc .bool, .sc .any] (fun (K25 : (Bool × Value) → Heap → Prop) h26 =>
  asI Tryd.prog 193 s2
  (K25 (true, s2) h26)
  (K25 (false, (.nilIface : Value)) h26)) (fun (s27 : Bool × Value) _ h28 =>
  br s27.1
  (invW Tryd.prog (.sc .slice) s27.2 "Unwrap" [] (fun (x29 : Option Addr × Nat × Nat) h30 =>
  loopT [.sc (.int .i64)] (fun (s32 : Int) _ (K31 : Int → Heap → Prop) h33 =>
  br (decide (s32 < (((x29.2.1 : Nat) : Int))))
  (ptrW x29.1 (fun a34 =>
  idxW s32 x29.2.1 true (ldW .any (Addr.add a34 (Int.toNat s32 * 1)) (fun (x35 : Value) =>
  callT Tryd.prog 107 [x35, target_1, .bool targetComparable_2] [.sc .bool] (fun (r36 : Bool) h37 =>
  br r36
  (K (.bool true) h37)
  (K31 (IntKind.wrap .i64 (s32 + (1 : Int))) h37)) h33) h33)))
  (K (.bool false) h33)) (0 : Int) h30) h28)
  (K (.bool false) h28)) h22)) h18) h8) h3) err_0 h0)
set_option maxRecDepth 100000 in
theorem F107_eq (err_0 : Value) (target_1 : Value) (targetComparable_2 : Bool) (K : Value → Heap → Prop) (h0 : Heap) : funWE Tryd.prog 107 (.seq (.leaf) (.block (.loop [(0, .sc .any)] (.block (.cut [] (.seq (.leaf) (.cond (.seq (.leaf) (.leaf)) (.leaf))) (.cut [] (.cut [(7, .sc .any), (8, .sc .bool)] (.leaf) (.seq (.leaf) (.cond (.seq (.leaf) (.leaf)) (.leaf)))) (.seq (.leaf) (.block (.cut [(33, .sc .bool), (34, .sc .any)] (.leaf) (.cond (.seq (.leaf) (.seq (.leaf) (.seq (.leaf) (.cond (.seq (.leaf) (.leaf)) (.leaf))))) (.cut [(40, .sc .bool), (41, .sc .any)] (.leaf) (.cond (.seq (.leaf) (.seq (.seq (.leaf) (.block (.loop [(45, .sc (.int .i64))] (.seq (.leaf) (.seq (.cond (.leaf) (.leaf)) (.seq (.block (.seq (.leaf) (.seq (.leaf) (.cond (.seq (.leaf) (.leaf)) (.leaf))))) (.leaf))))))) (.seq (.leaf) (.leaf)))) (.seq (.leaf) (.seq (.leaf) (.leaf))))))))))))))) [err_0, target_1, .bool targetComparable_2] K h0 = F107 err_0 target_1 targetComparable_2 K h0 := by kernel_rfl

-- function 37
set_option maxRecDepth 100000 in
def F37 (err_0 : Value) (e_1 : Int) (K : Value → Heap → Prop) (h0 : Heap) : Prop := (
  br (e_1 != (0 : Int))
  (callT Tryd.prog 74 [err_0, .iface 35 (.int .i64 e_1)] [.sc .bool] (fun (r1 : Bool) h2 =>
  K (.bool r1) h2) h0)
  (K (.bool false) h0))
set_option maxRecDepth 100000 in
theorem F37_eq (err_0 : Value) (e_1 : Int) (K : Value → Heap → Prop) (h0 : Heap) : funWE Tryd.prog 37 (.seq (.leaf) (.seq (.leaf) (.leaf))) [err_0, .int .i64 e_1] K h0 = F37 err_0 e_1 K h0 := by kernel_rfl

end Go.Proofs.YthimfpkkdhpceaaDoor.W
/-
  errors.Is and fault.Is over chains of faults.
-/
namespace Go.Proofs.YthimfpkkdhpceaaDoor.Err
open Go.RowKit Go.Extern.Stop Go.Stop Go.Extern Go.Pl Go.Proofs.YthimfpkkdhpceaaDoor.W Go.Proofs.YthimfpkkdhpceaaDoor.As
theorem hasIsE : hasB Tryd.prog 198 35 = some false := by kernel_rfl
theorem hasIsF : hasB Tryd.prog 198 163 = some false := by kernel_rfl
theorem eqN (t : TypeId) (y : Value) (w : World) : (Op.equal 32 .nilIface (.iface t y)).run Tryd.prog w = .ok false w := by kernel_rfl
theorem eqFE (x y : Value) (w : World) : (Op.equal 32 (.iface 163 x) (.iface 35 y)).run Tryd.prog w = .ok false w := by kernel_rfl
theorem eqEE (x y : Int) (w : World) : (Op.equal 32 (.iface 35 (.int .i64 x)) (.iface 35 (.int .i64 y))).run Tryd.prog w = .ok (x == y) w := by kernel_rfl
set_option maxRecDepth 20000 in
theorem is_ok (v : Value) (l : List (ByteArray × Int)) (c e : Int) (h : Heap) (hc : c ≠ 0) (he : ErrC h v l c) :
    CallsH Tryd.prog 107 [v, .iface 35 (.int .i64 e), .bool true] h fun r h' => r = .bool (c == e) ∧ h' = h := by
  refine fun_ok hm' Tryd.func107 (by kernel_rfl) (F107_eq _ _ _ _ h) ?_
  unfold F107
  refine ⟨fun (s : Value) h' => h' = h ∧ ∃ l', ErrC h s l' c, fun (s : Value) h' => lenE h' s, ⟨rfl, l, he⟩, ?_⟩
  rintro s _ h' ⟨hh, l', es⟩
  subst h'
  cases l' with
  | nil =>
    obtain rfl : s = .iface 35 (.int .i64 c) := (show s = errV c from es).trans (errV_ne hc)
    refine cut_q (fun _ h' => h' = h ∧ (c == e) = false) ?_ fun K4 k4 => ?_
    · rintro _ h' ⟨hh, hne⟩ _
      subst h'
      refine cut_q (fun _ h' => h' = h) ?_ fun K9 k9 => ?_
      · rintro _ h' hh _
        subst h'
        refine cut_q (fun (s : Bool × Value) h' => s = (false, .nilIface) ∧ h' = h) ?_ fun K27 k27 => ?_
        · rintro _ h' ⟨rfl, hh⟩ _
          subst h'
          refine br_f rfl (cut_q (fun (s : Bool × Value) h' => s = (false, .nilIface) ∧ h' = h) ?_ fun K33 k33 => ?_)
          · rintro _ h' ⟨rfl, hh⟩ _
            subst h'
            exact br_f rfl ⟨by rw [hne], rfl⟩
          · exact asI_f hasUlE (k33 _ h ⟨rfl, rfl⟩)
        · exact asI_f hasUnE (k27 _ h ⟨rfl, rfl⟩)
      · refine cut_q (fun (s : Value × Bool) h' => s = (.nilIface, false) ∧ h' = h) ?_ fun K18 k18 => ?_
        · rintro _ h' ⟨rfl, hh⟩ _
          subst h'
          exact br_f rfl (k9 () h rfl)
        · exact asI_f hasIsE (k18 _ h ⟨rfl, rfl⟩)
    · refine br_t rfl ⟨⟨.inr ⟨_, _, rfl⟩, .inr ⟨_, _, rfl⟩, fun e => nomatch e.1⟩, (c == e), eqEE c e, ?_⟩
      cases hce : (c == e) with
      | true => exact br_t rfl ⟨rfl, rfl⟩
      | false => exact br_f rfl (k4 () h ⟨rfl, hce⟩)
  | cons p l'' =>
    obtain ⟨op, at_⟩ := p
    have es0 := es
    obtain ⟨_, b, v', rfl, hb, ev⟩ := es
    refine cut_q (fun _ h' => h' = h) ?_ fun K4 k4 => ?_
    · rintro _ h' hh _
      subst h'
      refine cut_q (fun _ h' => h' = h) ?_ fun K9 k9 => ?_
      · rintro _ h' hh _
        subst h'
        refine cut_q (fun (s : Bool × Value) h' => s = (true, .iface 163 (.pointer (some ⟨b, 0, none⟩))) ∧ h' = h) ?_ fun K27 k27 => ?_
        · rintro _ h' ⟨rfl, hh⟩ _
          subst h'
          refine br_t rfl (inv_of (mUnw _) (.inl (unwrap_ok b op at_ v' h hb)) ?_)
          rintro r h2 ⟨hr, hh⟩
          subst hr hh
          have ok := ev.ok
          refine ⟨_, rfl, ⟨ok.1, br_f (by rw [ok.2]; simp [hc]) ⟨⟨rfl, _, ev⟩, ?_⟩⟩⟩
          show lenE _ _ < lenE _ _
          rw [lenE_of ev, lenE_of es0]
          simp
        · exact asI_t hasUnF (k27 _ h ⟨rfl, rfl⟩)
      · refine cut_q (fun (s : Value × Bool) h' => s = (.nilIface, false) ∧ h' = h) ?_ fun K18 k18 => ?_
        · rintro _ h' ⟨rfl, hh⟩ _
          subst h'
          exact br_f rfl (k9 () h rfl)
        · exact asI_f hasIsF (k18 _ h ⟨rfl, rfl⟩)
    · exact br_t rfl ⟨⟨.inr ⟨_, _, rfl⟩, .inr ⟨_, _, rfl⟩, fun e => nomatch e.1⟩, false, eqFE _ _, br_f rfl (k4 () h rfl)⟩
set_option maxRecDepth 20000 in
theorem Is_ok (v : Value) (l : List (ByteArray × Int)) (c e : Int) (h : Heap) (hn : e ≠ 0) (he : ErrC h v l c) :
    CallsH Tryd.prog 74 [v, .iface 35 (.int .i64 e)] h fun r h' => r = .bool (c == e) ∧ h' = h := by
  refine fun_ok hm' Tryd.func74 (by kernel_rfl) (F74_eq _ _ _ h) ?_
  unfold F74
  have ok := he.ok
  by_cases hc : c = 0
  · have hv : v = .nilIface := by
      cases l with
      | nil => exact (show v = errV c from he).trans (by rw [hc]; rfl)
      | cons p l => obtain ⟨_, _⟩ := p; exact absurd hc he.1
    subst hv hc
    refine cut_q (fun _ _ => False) (fun _ _ hf => hf.elim) fun K1 k1 => ?_
    refine ⟨.inl rfl, br_t rfl ⟨⟨.inl rfl, .inr ⟨_, _, rfl⟩, fun e => nomatch e.2⟩, false, eqN _ _, ?_⟩⟩
    refine ⟨?_, rfl⟩
    have : ((0 : Int) == e) = false := by simpa using fun x => hn x.symm
    rw [this]
  · refine cut_q (fun _ h' => h' = h) ?_ fun K1 k1 => ?_
    · rintro _ h' hh _
      subst h'
      refine ext_of (xTypeOfE _ h) ?_
      rintro r h1 ⟨rfl, hh⟩
      subst h1
      refine ⟨_, rfl, inv_of (mCmp _) (.inr (xCmpE h)) ?_⟩
      rintro r h1 ⟨rfl, hh⟩
      subst h1
      refine ⟨true, rfl, call_of (is_ok v l c e h hc he) ?_⟩
      rintro r h1 ⟨rfl, hh⟩
      subst h1
      exact ⟨_, rfl, rfl, rfl⟩
    · exact ⟨ok.1, br_f (by rw [ok.2]; simp [hc]) ⟨.inr ⟨_, _, rfl⟩, br_f rfl (k1 () h rfl)⟩⟩
/-- fault.Is. -/
theorem fis_ok (v : Value) (l : List (ByteArray × Int)) (c e : Int) (h : Heap) (he : ErrC h v l c) :
    CallsH Tryd.prog 37 [v, .int .i64 e] h fun r h' => r = .bool (!(e == 0) && c == e) ∧ h' = h := by
  refine fun_ok hm' Tryd.func37 (by kernel_rfl) (F37_eq _ _ _ h) ?_
  unfold F37
  by_cases hn : e = 0
  · subst hn
    exact br_f rfl ⟨rfl, rfl⟩
  · refine br_t (by simpa using hn) (call_of (Is_ok v l c e h hn he) ?_)
    rintro r h' ⟨rfl, hh⟩
    refine ⟨_, rfl, ?_, hh⟩
    have : (e == 0) = false := by simpa using hn
    rw [this]; rfl
end Go.Proofs.YthimfpkkdhpceaaDoor.Err
/-
  The formulas of package dir. Each formula checked by the kernel. Printed by a program of this repo.
-/
namespace Go.Proofs.YthimfpkkdhpceaaDoor.W
open Go.Pl

-- function 73
set_option maxRecDepth 100000 in
def F73 (d_0 : Addr) (g_1_0 : Int) (g_1_1 : Int) (g_1_2 : Int) (a_2 : Int) (id_3 : Int) (kinds_4 : Option Addr) (kinds_4l _kinds_4c : Nat) (K : Value → Heap → Prop) (h0 : Heap) : Prop := (
  newW (.cells #[.int .i64 g_1_0, .int .i64 g_1_1, .int .i64 g_1_2] 24) (fun a1 h2 =>
  ldAggW [.int .i64, .int .i64, .int .i64] a1 (fun (x3 : Int × Int × Int) =>
  callT Tryd.prog 105 [.pointer (some d_0), .agg #[.int .i64 x3.1, .int .i64 x3.2.1, .int .i64 x3.2.2], .int .u32 a_2] [.agg [.int .u8, .int .u32, .int .u32, .int .u32], .sc .slice, .sc .any] (fun (r4 : (Int × Int × Int × Int) × (Option Addr × Nat × Nat) × Value) h5 =>
  newW (.cells (zeroC Tryd.prog 65) 65) (fun a6 h7 =>
  stLW a6 [.int .u8 r4.1.1, .int .u32 r4.1.2.1, .int .u32 r4.1.2.2.1, .int .u32 r4.1.2.2.2] (fun h8 =>
  callT Tryd.prog 74 [r4.2.2, .iface 35 (.int .i64 7)] [.sc .bool] (fun (r9 : Bool) h10 =>
  br r9
  (K (.tuple #[.slice none 0 0, r4.2.2]) h10)
  (loopT [.sc (.int .i64)] (fun (s12 : Int) _ (K11 : Int → Heap → Prop) h13 =>
  br (decide (s12 < (((kinds_4l : Nat) : Int))))
  (ptrW kinds_4 (fun a14 =>
  idxW s12 kinds_4l true (ldW (.int .u8) (Addr.add a14 (Int.toNat s12 * 1)) (fun (x15 : Int) =>
  ifW r4.2.2 (br (isNilV r4.2.2)
  (ldW (.int .u8) (Addr.add a6 0) (fun (x16 : Int) =>
  br (x16 == x15)
  (ldW (.int .u32) (Addr.add a6 2) (fun (x17 : Int) =>
  br (x17 == (IntKind.wrap .u32 id_3))
  (K (.tuple #[.slice r4.2.1.1 r4.2.1.2.1 r4.2.1.2.2, .nilIface]) h13)
  (K11 (IntKind.wrap .i64 (s12 + (1 : Int))) h13)) h13)
  (K11 (IntKind.wrap .i64 (s12 + (1 : Int))) h13)) h13)
  (K11 (IntKind.wrap .i64 (s12 + (1 : Int))) h13))) h13)))
  (callT Tryd.prog 67 [.string ((⟨#[112, 97, 103, 101]⟩ : ByteArray)), .int .i64 (IntKind.wrap .i64 a_2), .iface 35 (.int .i64 10)] [.sc .any] (fun (r18 : Value) h19 =>
  K (.tuple #[.slice none 0 0, r18]) h19) h13)) (0 : Int) h10)) h8) h7) h5) h2) h2) h0)
set_option maxRecDepth 100000 in
theorem F73_eq (d_0 : Addr) (g_1_0 : Int) (g_1_1 : Int) (g_1_2 : Int) (a_2 : Int) (id_3 : Int) (kinds_4 : Option Addr) (kinds_4l kinds_4c : Nat) (K : Value → Heap → Prop) (h0 : Heap) : funWE Tryd.prog 73 (.seq (.leaf) (.seq (.leaf) (.seq (.seq (.leaf) (.cond (.seq (.leaf) (.leaf)) (.leaf))) (.seq (.seq (.leaf) (.block (.loop [(31, .sc (.int .i64))] (.seq (.leaf) (.seq (.cond (.leaf) (.leaf)) (.seq (.block (.seq (.leaf) (.seq (.leaf) (.cond (.seq (.leaf) (.leaf)) (.leaf))))) (.leaf))))))) (.seq (.leaf) (.leaf)))))) [.pointer (some d_0), .agg #[.int .i64 g_1_0, .int .i64 g_1_1, .int .i64 g_1_2], .int .u32 a_2, .int .i64 id_3, .slice kinds_4 kinds_4l kinds_4c] K h0 = F73 d_0 g_1_0 g_1_1 g_1_2 a_2 id_3 kinds_4 kinds_4l kinds_4c K h0 := by kernel_rfl

-- function 71
set_option maxRecDepth 100000 in
def F71 (d_0 : Addr) (g_1_0 : Int) (g_1_1 : Int) (g_1_2 : Int) (_dir_2 : Option Addr) (dir_2l _dir_2c : Nat) (K : Value → Heap → Prop) (h0 : Heap) : Prop := (
  newW (.cells #[.int .i64 g_1_0, .int .i64 g_1_1, .int .i64 g_1_2] 24) (fun a1 h2 =>
  callT Tryd.prog 81 [.pointer (some d_0)] [.sc .bool] (fun (r3 : Bool) h4 =>
  br r3
  (K (.iface 35 (.int .i64 7)) h4)
  (ldW (.int .i64) (Addr.add a1 2) (fun (x5 : Int) =>
  callT Tryd.prog 30 [.int .i64 x5] [.sc (.int .i64)] (fun (r6 : Int) h7 =>
  br ((((dir_2l : Nat) : Int)) != r6)
  (K (.iface 35 (.int .i64 1)) h7)
  (K (.nilIface) h7)) h4) h4)) h2) h0)
set_option maxRecDepth 100000 in
theorem F71_eq (d_0 : Addr) (g_1_0 : Int) (g_1_1 : Int) (g_1_2 : Int) (dir_2 : Option Addr) (dir_2l dir_2c : Nat) (K : Value → Heap → Prop) (h0 : Heap) : funWE Tryd.prog 71 (.seq (.leaf) (.seq (.block (.seq (.leaf) (.cond (.seq (.leaf) (.leaf)) (.seq (.leaf) (.cond (.seq (.leaf) (.leaf)) (.leaf)))))) (.seq (.leaf) (.leaf)))) [.pointer (some d_0), .agg #[.int .i64 g_1_0, .int .i64 g_1_1, .int .i64 g_1_2], .slice dir_2 dir_2l dir_2c] K h0 = F71 d_0 g_1_0 g_1_1 g_1_2 dir_2 dir_2l dir_2c K h0 := by kernel_rfl

-- function 63
set_option maxRecDepth 100000 in
def F63 (d_0 : Addr) (g_1_0 : Int) (g_1_1 : Int) (g_1_2 : Int) (dir_2 : Option Addr) (dir_2l dir_2c : Nat) (table_3 : Int) (K : Value → Heap → Prop) (h0 : Heap) : Prop := (
  newW (.cells #[.int .i64 g_1_0, .int .i64 g_1_1, .int .i64 g_1_2] 24) (fun a1 h2 =>
  newW (.cells (zeroC Tryd.prog 72) 72) (fun a3 h4 =>
  ldAggW [.int .i64, .int .i64, .int .i64] a1 (fun (x5 : Int × Int × Int) =>
  callT Tryd.prog 71 [.pointer (some d_0), .agg #[.int .i64 x5.1, .int .i64 x5.2.1, .int .i64 x5.2.2], .slice dir_2 dir_2l dir_2c] [.sc .any] (fun (r6 : Value) h7 =>
  ifW r6 (br (!(isNilV r6))
  (stLW a3 [.int .u32 0, .int .u32 0, .int .u32 0, .int .u32 0] (fun h8 =>
  ldAggW [.int .u32, .int .u32, .int .u32, .int .u32] a3 (fun (x9 : Int × Int × Int × Int) =>
  K (.tuple #[.agg #[.int .u32 x9.1, .int .u32 x9.2.1, .int .u32 x9.2.2.1, .int .u32 x9.2.2.2], r6]) h8) h8) h7)
  (cutT [] (fun (K10 : Unit → Heap → Prop) h15 =>
  br (decide (table_3 < (0 : Int)))
  (stLW a3 [.int .u32 0, .int .u32 0, .int .u32 0, .int .u32 0] (fun h11 =>
  ldAggW [.int .u32, .int .u32, .int .u32, .int .u32] a3 (fun (x12 : Int × Int × Int × Int) =>
  K (.tuple #[.agg #[.int .u32 x12.1, .int .u32 x12.2.1, .int .u32 x12.2.2.1, .int .u32 x12.2.2.2], .iface 35 (.int .i64 1)]) h11) h11) h15)
  (br (decide (table_3 ≥ (((dir_2l : Nat) : Int))))
  (stLW a3 [.int .u32 0, .int .u32 0, .int .u32 0, .int .u32 0] (fun h13 =>
  ldAggW [.int .u32, .int .u32, .int .u32, .int .u32] a3 (fun (x14 : Int × Int × Int × Int) =>
  K (.tuple #[.agg #[.int .u32 x14.1, .int .u32 x14.2.1, .int .u32 x14.2.2.1, .int .u32 x14.2.2.2], .iface 35 (.int .i64 1)]) h13) h13) h15)
  (K10 () h15))) (fun (_s16 : Unit) _ h17 =>
  ptrW dir_2 (fun a18 =>
  idxW table_3 dir_2l true (ldW (.int .u32) (Addr.add a18 (Int.toNat table_3 * 1)) (fun (x19 : Int) =>
  br (x19 == (0 : Int))
  (stLW a3 [.int .u32 0, .int .u32 0, .int .u32 0, .int .u32 0] (fun h20 =>
  ldAggW [.int .u32, .int .u32, .int .u32, .int .u32] a3 (fun (x21 : Int × Int × Int × Int) =>
  K (.tuple #[.agg #[.int .u32 x21.1, .int .u32 x21.2.1, .int .u32 x21.2.2.1, .int .u32 x21.2.2.2], .nilIface]) h20) h20) h17)
  (ldAggW [.int .i64, .int .i64, .int .i64] a1 (fun (x22 : Int × Int × Int) =>
  ptrW dir_2 (fun a23 =>
  idxW table_3 dir_2l true (ldW (.int .u32) (Addr.add a23 (Int.toNat table_3 * 1)) (fun (x24 : Int) =>
  newW (.cells #[.int .u8 3] 5) (fun a25 h26 =>
  callT Tryd.prog 73 [.pointer (some d_0), .agg #[.int .i64 x22.1, .int .i64 x22.2.1, .int .i64 x22.2.2], .int .u32 x24, .int .i64 table_3, .slice (some a25) 1 1] [.sc .slice, .sc .any] (fun (r27 : (Option Addr × Nat × Nat) × Value) h28 =>
  ifW r27.2 (br (!(isNilV r27.2))
  (callT Tryd.prog 67 [.string ((⟨#[109, 97, 112]⟩ : ByteArray)), .int .i64 table_3, r27.2] [.sc .any] (fun (r29 : Value) h30 =>
  stLW a3 [.int .u32 0, .int .u32 0, .int .u32 0, .int .u32 0] (fun h31 =>
  ldAggW [.int .u32, .int .u32, .int .u32, .int .u32] a3 (fun (x32 : Int × Int × Int × Int) =>
  K (.tuple #[.agg #[.int .u32 x32.1, .int .u32 x32.2.1, .int .u32 x32.2.2.1, .int .u32 x32.2.2.2], r29]) h31) h31) h30) h28)
  (callT Tryd.prog 96 [.slice r27.1.1 r27.1.2.1 r27.1.2.2] [.agg [.int .u32, .int .u32, .int .u32, .int .u32], .sc .any] (fun (r33 : (Int × Int × Int × Int) × Value) h34 =>
  stLW a3 [.int .u32 r33.1.1, .int .u32 r33.1.2.1, .int .u32 r33.1.2.2.1, .int .u32 r33.1.2.2.2] (fun h35 =>
  ldAggW [.int .u32, .int .u32, .int .u32, .int .u32] a3 (fun (x36 : Int × Int × Int × Int) =>
  K (.tuple #[.agg #[.int .u32 x36.1, .int .u32 x36.2.1, .int .u32 x36.2.2.1, .int .u32 x36.2.2.2], r33.2]) h35) h35) h34) h28))) h26) h17) h17))) h17)) h17))) h7))) h4) h4) h2) h0)
set_option maxRecDepth 100000 in
theorem F63_eq (d_0 : Addr) (g_1_0 : Int) (g_1_1 : Int) (g_1_2 : Int) (dir_2 : Option Addr) (dir_2l dir_2c : Nat) (table_3 : Int) (K : Value → Heap → Prop) (h0 : Heap) : funWE Tryd.prog 63 (.seq (.leaf) (.seq (.seq (.leaf) (.seq (.leaf) (.cond (.seq (.leaf) (.leaf)) (.leaf)))) (.cut [] (.seq (.leaf) (.cond (.seq (.leaf) (.leaf)) (.leaf))) (.seq (.seq (.leaf) (.cond (.seq (.leaf) (.leaf)) (.leaf))) (.seq (.draw (odp [0, 1, 2, 3, 4, 5, 6, 7, 8, 9, 10, 11, 12, 13] .nil) []) (.seq (.seq (.leaf) (.cond (.seq (.leaf) (.leaf)) (.leaf))) (.seq (.leaf) (.leaf)))))))) [.pointer (some d_0), .agg #[.int .i64 g_1_0, .int .i64 g_1_1, .int .i64 g_1_2], .slice dir_2 dir_2l dir_2c, .int .i64 table_3] K h0 = F63 d_0 g_1_0 g_1_1 g_1_2 dir_2 dir_2l dir_2c table_3 K h0 := by kernel_rfl

-- function 34
set_option maxRecDepth 100000 in
def F34 (d_0 : Addr) (g_1_0 : Int) (g_1_1 : Int) (g_1_2 : Int) (dir_2 : Option Addr) (dir_2l dir_2c : Nat) (K : Value → Heap → Prop) (h0 : Heap) : Prop := (
  newW (.cells #[.int .i64 g_1_0, .int .i64 g_1_1, .int .i64 g_1_2] 24) (fun a1 h2 =>
  ldAggW [.int .i64, .int .i64, .int .i64] a1 (fun (x3 : Int × Int × Int) =>
  callT Tryd.prog 71 [.pointer (some d_0), .agg #[.int .i64 x3.1, .int .i64 x3.2.1, .int .i64 x3.2.2], .slice dir_2 dir_2l dir_2c] [.sc .any] (fun (r4 : Value) h5 =>
  ifW r4 (br (!(isNilV r4))
  (K (.tuple #[.slice none 0 0, r4]) h5)
  (loopT [.sc .slice, .sc (.int .i64)] (fun (s7 : (Option Addr × Nat × Nat) × Int) _ (K6 : ((Option Addr × Nat × Nat) × Int) → Heap → Prop) h8 =>
  br (decide (s7.2 < (((dir_2l : Nat) : Int))))
  (ldAggW [.int .i64, .int .i64, .int .i64] a1 (fun (x9 : Int × Int × Int) =>
  callT Tryd.prog 63 [.pointer (some d_0), .agg #[.int .i64 x9.1, .int .i64 x9.2.1, .int .i64 x9.2.2], .slice dir_2 dir_2l dir_2c, .int .i64 s7.2] [.agg [.int .u32, .int .u32, .int .u32, .int .u32], .sc .any] (fun (r10 : (Int × Int × Int × Int) × Value) h11 =>
  newW (.cells (zeroC Tryd.prog 72) 72) (fun a12 h13 =>
  stLW a12 [.int .u32 r10.1.1, .int .u32 r10.1.2.1, .int .u32 r10.1.2.2.1, .int .u32 r10.1.2.2.2] (fun h14 =>
  ifW r10.2 (br (!(isNilV r10.2))
  (K (.tuple #[.slice none 0 0, r10.2]) h14)
  (slW (some a12) 4 1 (0 : Int) (4 : Int) (4 : Int) (fun b15 n16 c17 =>
  apW Tryd.prog #[25, 25] #[.slice s7.1.1 s7.1.2.1 s7.1.2.2, .slice b15 n16 c17] (fun b18 n19 c20 h21 =>
  K6 ((b18, n19, c20), (IntKind.wrap .i64 (s7.2 + (1 : Int)))) h21) h14)))) h13) h11) h8) h8)
  (ldW (.int .i64) (Addr.add a1 2) (fun (x22 : Int) =>
  slW s7.1.1 s7.1.2.2 1 x22 (((s7.1.2.1 : Nat) : Int)) (((s7.1.2.2 : Nat) : Int)) (fun b23 n24 _c25 =>
  loopT [.sc (.int .i64)] (fun (s27 : Int) _ (K26 : Int → Heap → Prop) h28 =>
  br (decide (s27 < (((n24 : Nat) : Int))))
  (ptrW b23 (fun a29 =>
  idxW s27 n24 true (ldW (.int .u32) (Addr.add a29 (Int.toNat s27 * 1)) (fun (x30 : Int) =>
  br (x30 != (0 : Int))
  (callT Tryd.prog 67 [.string ((⟨#[109, 97, 112]⟩ : ByteArray)), .int .i64 (IntKind.wrap .i64 ((((dir_2l : Nat) : Int)) - (1 : Int))), .iface 35 (.int .i64 10)] [.sc .any] (fun (r31 : Value) h32 =>
  K (.tuple #[.slice none 0 0, r31]) h32) h28)
  (K26 (IntKind.wrap .i64 (s27 + (1 : Int))) h28)) h28)))
  (ldW (.int .i64) (Addr.add a1 2) (fun (x33 : Int) =>
  ldW (.int .i64) (Addr.add a1 2) (fun (x34 : Int) =>
  slW s7.1.1 s7.1.2.2 1 (0 : Int) x33 x34 (fun b35 n36 c37 =>
  K (.tuple #[.slice b35 n36 c37, .nilIface]) h28)) h28) h28)) (0 : Int) h8)) h8)) ((none, 0, 0), (0 : Int)) h5))) h2) h2) h0)
set_option maxRecDepth 100000 in
theorem F34_eq (d_0 : Addr) (g_1_0 : Int) (g_1_1 : Int) (g_1_2 : Int) (dir_2 : Option Addr) (dir_2l dir_2c : Nat) (K : Value → Heap → Prop) (h0 : Heap) : funWE Tryd.prog 34 (.seq (.leaf) (.seq (.seq (.leaf) (.seq (.leaf) (.cond (.seq (.leaf) (.leaf)) (.leaf)))) (.seq (.leaf) (.seq (.seq (.leaf) (.block (.loop [(9, .sc .slice), (24, .sc (.int .i64))] (.seq (.leaf) (.seq (.cond (.leaf) (.leaf)) (.seq (.block (.seq (.leaf) (.seq (.leaf) (.seq (.seq (.leaf) (.cond (.seq (.leaf) (.leaf)) (.leaf))) (.leaf))))) (.leaf))))))) (.seq (.seq (.leaf) (.block (.loop [(47, .sc (.int .i64))] (.seq (.leaf) (.seq (.cond (.leaf) (.leaf)) (.seq (.block (.seq (.leaf) (.seq (.leaf) (.cond (.seq (.leaf) (.leaf)) (.leaf))))) (.leaf))))))) (.seq (.leaf) (.leaf))))))) [.pointer (some d_0), .agg #[.int .i64 g_1_0, .int .i64 g_1_1, .int .i64 g_1_2], .slice dir_2 dir_2l dir_2c] K h0 = F34 d_0 g_1_0 g_1_1 g_1_2 dir_2 dir_2l dir_2c K h0 := by kernel_rfl

-- function 36
set_option maxRecDepth 100000 in
def F36 (d_0 : Addr) (g_1_0 : Int) (g_1_1 : Int) (g_1_2 : Int) (dir_2 : Option Addr) (dir_2l dir_2c : Nat) (all_3 : Option Addr) (all_3l all_3c : Nat) (K : Value → Heap → Prop) (h0 : Heap) : Prop := (
  newW (.cells #[.pointer (some d_0)] 59) (fun a1 h2 =>
  newW (.cells #[.int .i64 g_1_0, .int .i64 g_1_1, .int .i64 g_1_2] 24) (fun a3 h4 =>
  ldW .ptr a1 (fun (x5 : Option Addr) =>
  ldAggW [.int .i64, .int .i64, .int .i64] a3 (fun (x6 : Int × Int × Int) =>
  callT Tryd.prog 71 [.pointer x5, .agg #[.int .i64 x6.1, .int .i64 x6.2.1, .int .i64 x6.2.2], .slice dir_2 dir_2l dir_2c] [.sc .any] (fun (r7 : Value) h8 =>
  ifW r7 (br (!(isNilV r7))
  (K (r7) h8)
  (ldW (.int .i64) (Addr.add a3 2) (fun (x9 : Int) =>
  br ((((all_3l : Nat) : Int)) != x9)
  (K (.iface 35 (.int .i64 1)) h8)
  (mkmW Tryd.prog 130 (fun r10 h11 =>
  newW (.cells (zeroC Tryd.prog 130) 130) (fun a12 h13 =>
  stW a12 (.map r10) (fun h14 =>
  newW (.cells #[.int .u8 3] 5) (fun a15 h16 =>
  callW Tryd.prog (.sc .any) (.func (.func 72) #[] #[.pointer (some a12), .pointer (some a1), .pointer (some a3)]) [.slice dir_2 dir_2l dir_2c, .slice (some a15) 1 1] (fun (x17 : Value) h18 =>
  ifW x17 (br (!(isNilV x17))
  (K (x17) h18)
  (newW (.cells #[.int .u8 1, .int .u8 4] 5) (fun a19 h20 =>
  callW Tryd.prog (.sc .any) (.func (.func 72) #[] #[.pointer (some a12), .pointer (some a1), .pointer (some a3)]) [.slice all_3 all_3l all_3c, .slice (some a19) 2 2] (fun (x21 : Value) h22 =>
  K (x21) h22) h20) h18))) h16) h14) h13) h11) h8)) h8))) h4) h4) h4) h2) h0)
set_option maxRecDepth 100000 in
theorem F36_eq (d_0 : Addr) (g_1_0 : Int) (g_1_1 : Int) (g_1_2 : Int) (dir_2 : Option Addr) (dir_2l dir_2c : Nat) (all_3 : Option Addr) (all_3l all_3c : Nat) (K : Value → Heap → Prop) (h0 : Heap) : funWE Tryd.prog 36 (.seq (.leaf) (.seq (.seq (.leaf) (.seq (.leaf) (.cond (.seq (.leaf) (.leaf)) (.leaf)))) (.seq (.seq (.leaf) (.cond (.seq (.leaf) (.leaf)) (.leaf))) (.seq (.leaf) (.seq (.leaf) (.seq (.seq (.leaf) (.seq (.leaf) (.cond (.seq (.leaf) (.leaf)) (.leaf)))) (.seq (.leaf) (.leaf)))))))) [.pointer (some d_0), .agg #[.int .i64 g_1_0, .int .i64 g_1_1, .int .i64 g_1_2], .slice dir_2 dir_2l dir_2c, .slice all_3 all_3l all_3c] K h0 = F36 d_0 g_1_0 g_1_1 g_1_2 dir_2 dir_2l dir_2c all_3 all_3l all_3c K h0 := by kernel_rfl

-- function 72
set_option maxRecDepth 100000 in
def F72 (l_0 : Option Addr) (l_0l _l_0c : Nat) (kinds_1 : Option Addr) (kinds_1l kinds_1c : Nat) (cap_0 : Addr) (cap_1 : Addr) (cap_2 : Addr) (K : Value → Heap → Prop) (h0 : Heap) : Prop := (
  loopT [.sc (.int .i64)] (fun (s2 : Int) _ (K1 : Int → Heap → Prop) h3 =>
  br (decide (s2 < (((l_0l : Nat) : Int))))
  (ptrW l_0 (fun a4 =>
  idxW s2 l_0l true (ldW (.int .u32) (Addr.add a4 (Int.toNat s2 * 1)) (fun (x5 : Int) =>
  br (x5 == (0 : Int))
  (K1 (IntKind.wrap .i64 (s2 + (1 : Int))) h3)
  (ldW .map cap_0 (fun (x6 : Option Nat) =>
  lkW Tryd.prog 130 (.sc (.int .i64)) (.map x6) (.int .u32 x5) (fun (x7 : Int) =>
  muW Tryd.prog 130 (.map x6) (.int .u32 x5) (.int .i64 (IntKind.wrap .i64 (x7 + (1 : Int)))) (fun h8 =>
  ldW .map cap_0 (fun (x9 : Option Nat) =>
  lkW Tryd.prog 130 (.sc (.int .i64)) (.map x9) (.int .u32 x5) (fun (x10 : Int) =>
  br (decide (x10 > (1 : Int)))
  (callT Tryd.prog 67 [.string ((⟨#[116, 119, 105, 99, 101]⟩ : ByteArray)), .int .i64 (IntKind.wrap .i64 x5), .iface 35 (.int .i64 10)] [.sc .any] (fun (r11 : Value) h12 =>
  K (r11) h12) h8)
  (ldW .ptr cap_1 (fun (x13 : Option Addr) =>
  ldAggW [.int .i64, .int .i64, .int .i64] cap_2 (fun (x14 : Int × Int × Int) =>
  callT Tryd.prog 73 [.pointer x13, .agg #[.int .i64 x14.1, .int .i64 x14.2.1, .int .i64 x14.2.2], .int .u32 x5, .int .i64 s2, .slice kinds_1 kinds_1l kinds_1c] [.sc .slice, .sc .any] (fun (r15 : (Option Addr × Nat × Nat) × Value) h16 =>
  ifW r15.2 (br (!(isNilV r15.2))
  (K (r15.2) h16)
  (K1 (IntKind.wrap .i64 (s2 + (1 : Int))) h16))) h8) h8) h8)) h8) h8) h3) h3) h3)) h3)))
  (K (.nilIface) h3)) (0 : Int) h0)
set_option maxRecDepth 100000 in
theorem F72_eq (l_0 : Option Addr) (l_0l l_0c : Nat) (kinds_1 : Option Addr) (kinds_1l kinds_1c : Nat) (cap_0 : Addr) (cap_1 : Addr) (cap_2 : Addr) (K : Value → Heap → Prop) (h0 : Heap) : funWE Tryd.prog 72 (.seq (.leaf) (.seq (.seq (.leaf) (.block (.loop [(14, .sc (.int .i64))] (.seq (.leaf) (.seq (.cond (.leaf) (.leaf)) (.seq (.block (.seq (.leaf) (.seq (.seq (.leaf) (.cond (.leaf) (.leaf))) (.seq (.seq (.leaf) (.seq (.leaf) (.cond (.seq (.leaf) (.leaf)) (.leaf)))) (.seq (.leaf) (.seq (.leaf) (.cond (.seq (.leaf) (.leaf)) (.leaf)))))))) (.leaf))))))) (.seq (.leaf) (.leaf)))) [.slice l_0 l_0l l_0c, .slice kinds_1 kinds_1l kinds_1c, .pointer (some cap_0), .pointer (some cap_1), .pointer (some cap_2)] K h0 = F72 l_0 l_0l l_0c kinds_1 kinds_1l kinds_1c cap_0 cap_1 cap_2 K h0 := by kernel_rfl

-- function 32
set_option maxRecDepth 100000 in
def F32 (p_0_0 : Int) (p_0_1 : Int) (p_0_2 : Int) (p_0_3 : Int) (table_1 : Int) (l_2 : Option Addr) (l_2l _l_2c : Nat) (K : Value → Heap → Prop) (h0 : Heap) : Prop := (
  newW (.cells #[.int .u32 p_0_0, .int .u32 p_0_1, .int .u32 p_0_2, .int .u32 p_0_3] 72) (fun a1 h2 =>
  newW (.cells (zeroC Tryd.prog 72) 72) (fun a3 h4 =>
  loopT [.sc (.int .i64)] (fun (s6 : Int) _ (K5 : Int → Heap → Prop) h7 =>
  br (decide (s6 < (((l_2l : Nat) : Int))))
  (ptrW l_2 (fun a8 =>
  idxW s6 l_2l true (ldAggW [.int .i64, .int .u32, .bool] (Addr.add a8 (Int.toNat s6 * 3)) (fun (x9 : Int × Int × Bool) =>
  newW (.cells (zeroC Tryd.prog 69) 69) (fun a10 h11 =>
  stLW a10 [.int .i64 x9.1, .int .u32 x9.2.1, .bool x9.2.2] (fun h12 =>
  ldW (.int .i64) (Addr.add a10 0) (fun (x13 : Int) =>
  br (decide (x13 < (0 : Int)))
  (K5 (IntKind.wrap .i64 (s6 + (1 : Int))) h12)
  (ldW (.int .i64) (Addr.add a10 0) (fun (x14 : Int) =>
  callT Tryd.prog 70 [.int .i64 x14] [.sc (.int .i64), .sc (.int .i64)] (fun (r15 : Int × Int) h16 =>
  br (r15.1 == table_1)
  (ldW (.int .u32) (Addr.add a10 1) (fun (x17 : Int) =>
  idxW r15.2 4 true (stW (Addr.add a1 (Int.toNat r15.2 * 1)) (.int .u32 x17) (fun h18 =>
  K5 (IntKind.wrap .i64 (s6 + (1 : Int))) h18) h16)) h16)
  (K5 (IntKind.wrap .i64 (s6 + (1 : Int))) h16)) h12) h12)) h12) h11) h7) h7)))
  (ldAggW [.int .u32, .int .u32, .int .u32, .int .u32] a1 (fun (x19 : Int × Int × Int × Int) =>
  stLW a3 [.int .u32 x19.1, .int .u32 x19.2.1, .int .u32 x19.2.2.1, .int .u32 x19.2.2.2] (fun h20 =>
  ldAggW [.int .u32, .int .u32, .int .u32, .int .u32] a3 (fun (x21 : Int × Int × Int × Int) =>
  K (.agg #[.int .u32 x21.1, .int .u32 x21.2.1, .int .u32 x21.2.2.1, .int .u32 x21.2.2.2]) h20) h20) h7) h7)) (0 : Int) h4) h2) h0)
set_option maxRecDepth 100000 in
theorem F32_eq (p_0_0 : Int) (p_0_1 : Int) (p_0_2 : Int) (p_0_3 : Int) (table_1 : Int) (l_2 : Option Addr) (l_2l l_2c : Nat) (K : Value → Heap → Prop) (h0 : Heap) : funWE Tryd.prog 32 (.seq (.leaf) (.seq (.seq (.leaf) (.block (.loop [(13, .sc (.int .i64))] (.seq (.leaf) (.seq (.cond (.leaf) (.leaf)) (.seq (.block (.seq (.leaf) (.seq (.seq (.leaf) (.cond (.leaf) (.leaf))) (.seq (.leaf) (.seq (.leaf) (.cond (.leaf) (.leaf))))))) (.leaf))))))) (.seq (.leaf) (.leaf)))) [.agg #[.int .u32 p_0_0, .int .u32 p_0_1, .int .u32 p_0_2, .int .u32 p_0_3], .int .i64 table_1, .slice l_2 l_2l l_2c] K h0 = F32 p_0_0 p_0_1 p_0_2 p_0_3 table_1 l_2 l_2l l_2c K h0 := by kernel_rfl

-- function 70
set_option maxRecDepth 100000 in
def F70 (block_0 : Int) (K : Value → Heap → Prop) (h0 : Heap) : Prop := (
  K (.tuple #[.int .i64 (IntKind.wrap .i64 (Int.tdiv block_0 (4 : Int))), .int .i64 (Int.tmod block_0 (4 : Int))]) h0)
set_option maxRecDepth 100000 in
theorem F70_eq (block_0 : Int) (K : Value → Heap → Prop) (h0 : Heap) : funWE Tryd.prog 70 (.seq (.leaf) (.seq (.leaf) (.leaf))) [.int .i64 block_0] K h0 = F70 block_0 K h0 := by kernel_rfl

end Go.Proofs.YthimfpkkdhpceaaDoor.W
/-
  The contracts of package dir, where the power is there: a page, a map page, what lies in a map page.
-/
namespace Go.Proofs.YthimfpkkdhpceaaDoor.Dir
open Go.Pl Go.Proofs.YthimfpkkdhpceaaDoor.W Go.Proofs.YthimfpkkdhpceaaDoor.Byts Go.Proofs.YthimfpkkdhpceaaDoor.As Go.Proofs.YthimfpkkdhpceaaDoor.Err Go.Proofs.YthimfpkkdhpceaaDoor.Head Go.Proofs.YthimfpkkdhpceaaDoor.HdP Go.Proofs.YthimfpkkdhpceaaDoor.Zns Go.Proofs.YthimfpkkdhpceaaDoor.ZnsP Go.Proofs.YthimfpkkdhpceaaDoor.Geo Go.Proofs.YthimfpkkdhpceaaDoor.Med
/-- Is a page of some kinds there, with that Id? -/
def goodP (z p : Int) (D : Dev) (a id : Int) (ks : List Int) : Bool := decide ((getM z p D a).2.2 = 0) && (decide ((getM z p D a).1.2.2.1 = id % 4294967296) && ks.contains (getM z p D a).1.1)
theorem goodP_iff {z p : Int} {D : Dev} {a id : Int} {ks : List Int} : goodP z p D a id ks = true ↔ (getM z p D a).2.2 = 0 ∧ (getM z p D a).1.2.2.1 = id % 4294967296 ∧ (getM z p D a).1.1 ∈ ks := by
  unfold goodP; simp
theorem getM_up {z p : Int} {D : Dev} {a : Int} (hd : D.down = false) : (getM z p D a).2.2 ≠ 7 := by
  unfold getM
  split
  · simp
  · split
    · unfold Dev.read
      rw [if_neg (by rw [hd]; simp)]
      repeat' split
      all_goals simp
    · unfold readF
      repeat' split
      all_goals simp
theorem getM_len {z p : Int} {D : Dev} {a : Int} (h : (getM z p D a).2.2 = 0) : (getM z p D a).2.1.length = 16 := by
  unfold getM at h ⊢
  split
  · rename_i h1; rw [if_pos h1] at h; cases h
  · rename_i h1
    rw [if_neg h1] at h
    split
    · rename_i h2; rw [if_pos h2] at h; exact (h2 h).elim
    · rename_i h2
      rw [if_neg h2] at h
      generalize (D.read (atF z p a).1 (atF z p a).2.1).1 = pg at h ⊢
      unfold readF at h ⊢
      split
      · rename_i h3; rw [if_pos h3] at h; cases h
      · rename_i h3
        rw [if_neg h3] at h
        split
        · rename_i h4; rw [if_pos h4] at h; cases h
        · rename_i h4
          rw [if_neg h4] at h
          split
          · rename_i h5; rw [if_pos h5] at h; cases h
          · simp only [List.length_drop]; omega
theorem getM_byt {z p : Int} {D : Dev} (o : DevOk D) (a : Int) : Byt (getM z p D a).2.1 := by
  unfold getM
  split
  · exact fun x hx => by cases hx
  · split
    · exact fun x hx => by cases hx
    · exact readF_byt (read_byt o _ _)
def PageP (z p : Int) (D : Dev) (a id : Int) (ks : List Int) (h : Heap) (v : Value) (h' : Heap) : Prop := New h h' ∧ ∃ ba bc n e l, v = .tuple #[.slice ba n bc, e] ∧ ErrC h' e l (if goodP z p D a id ks = true then 0 else 10) ∧
  (goodP z p D a id ks = true → n = 16 ∧ Ar .u8 h' ba (getM z p D a).2.1)
theorem page_ok {k b : Nat} {t : Tags} {D : Dev} {z p : Int} (gk : GOk z p D) (hd : D.down = false) (g a id : Int) (ha : 0 ≤ a ∧ a < 4294967296) (ka : Option Addr) (kc : Nat) (ks : List Int) (hks : ks.length ≤ 100) (h : Heap) (r : PRep k t h b D) (kr : Ar .u8 h ka ks) :
    CallsH Tryd.prog 73 [ptr b, geoV z p g, .int .u32 a, .int .i64 id, .slice ka ks.length kc] h (PageP z p D a id ks h) := by
  refine fun_ok Geo.hm' Tryd.func73 (by kernel_rfl) (F73_eq _ _ _ _ _ _ _ _ _ _ h) ?_
  unfold F73
  rw [zeroH]
  refine new_of fun h1 b1 n1 s1 => ldAgg_blk (z, p, g) b1 ⟨rfl, rfl, rfl, trivial⟩ (call_of (get_ok gk g a ha h1 (r.new n1)) ?_)
  rintro v h2 ⟨ba, bc, e, l, rfl, he, g2⟩
  refine ⟨((getM z p D a).1, (ba, (getM z p D a).2.1.length, bc), e), rfl, new_stL rfl fun h3 b3 n3 s3 => call_of (Is_ok e l (getM z p D a).2.2 7 h3 (by decide) (he.new n3)) ?_⟩
  rintro v h' ⟨rfl, hh⟩; subst h'
  have n03 : New h h3 := (n1.trans g2.new).trans n3
  have hu := getM_up (z := z) (p := p) (a := a) hd
  refine ⟨_, rfl, br_f (by simpa using hu) ?_⟩
  have fin : ∀ h4, New h h4 → goodP z p D a id ks = false → callT Tryd.prog 67 [.string ((⟨#[112, 97, 103, 101]⟩ : ByteArray)), .int .i64 (IntKind.wrap .i64 a), .iface 35 (.int .i64 10)] [.sc .any] (fun (r18 : Value) h19 =>
      PageP z p D a id ks h (.tuple #[.slice none 0 0, r18]) h19) h4 := by
    intro h4 n4 hg
    refine call_of (wrap_v _ _ 10 h4) ?_
    rintro v h5 ⟨l5, e5, n5⟩
    exact ⟨v, rfl, n4.trans n5, none, 0, 0, v, l5, rfl, by rw [hg]; exact e5, fun hh => by rw [hg] at hh; cases hh⟩
  refine ⟨fun (s : Int) h' => h' = h3 ∧ ∃ i : Nat, s = i ∧ i ≤ ks.length ∧ ((getM z p D a).2.2 = 0 → (getM z p D a).1.2.2.1 = id % 4294967296 → (getM z p D a).1.1 ∉ ks.take i), fun (s : Int) _ => ((ks.length : Int) - s).toNat, ⟨rfl, 0, rfl, Nat.zero_le _, fun _ _ => by simp⟩, ?_⟩
  rintro s j h' ⟨hh, i, rfl, hi, hno⟩; subst h'
  refine br_of (fun hlt => ?_) (fun hlt => ?_)
  · have hlt : (i : Int) < (ks.length : Int) := of_decide_eq_true hlt
    have hiL : i < ks.length := by omega
    have ok3 := (he.new n3).ok
    have next : ((getM z p D a).2.2 = 0 → (getM z p D a).1.2.2.1 = id % 4294967296 → (getM z p D a).1.1 ≠ ks[i]) → ((getM z p D a).2.2 = 0 → (getM z p D a).1.2.2.1 = id % 4294967296 → (getM z p D a).1.1 ∉ ks.take (i + 1)) := by
      intro hn h1 h2 hm
      rw [← List.take_append_getElem hiL, List.mem_append, List.mem_singleton] at hm
      rcases hm with hm | hm
      · exact hno h1 h2 hm
      · exact hn h1 h2 hm
    refine ix_ld (kr.new n03) hiL hiL ⟨ok3.1, ?_⟩
    rw [ok3.2]
    refine br_of (fun h0 => ?_) (fun h0 => ⟨⟨rfl, i + 1, (by first | (rw [wr64 (by omega) (by omega)]; omega) | (simp only [IntKind.wrap_i64]; omega)), hiL, next fun h1 => ((of_decide_eq_false h0) h1).elim⟩, (by dsimp only; first | (rw [wr64 (by omega) (by omega)]; omega) | (rw [wr64 (by omega) (by omega), wr64 (by omega) (by omega)]; omega) | (simp only [IntKind.wrap_i64]; omega))⟩)
    have h0 : (getM z p D a).2.2 = 0 := of_decide_eq_true h0
    refine ld_of (c := .int .u8) (getM z p D a).1.1 (by rw [add_mk, cellH_blk b3]; rfl) (br_of (fun h4 => ?_) (fun h4 => ⟨⟨rfl, i + 1, (by first | (rw [wr64 (by omega) (by omega)]; omega) | (simp only [IntKind.wrap_i64]; omega)), hiL, next fun _ _ hk => by rw [hk] at h4; simp at h4⟩, (by dsimp only; first | (rw [wr64 (by omega) (by omega)]; omega) | (rw [wr64 (by omega) (by omega), wr64 (by omega) (by omega)]; omega) | (simp only [IntKind.wrap_i64]; omega))⟩))
    have h4 : (getM z p D a).1.1 = ks[i] := by simpa using h4
    refine ld_of (c := .int .u32) (getM z p D a).1.2.2.1 (by rw [add_mk, cellH_blk b3]; rfl) (br_of (fun h5 => ?_) (fun h5 => ⟨⟨rfl, i + 1, (by first | (rw [wr64 (by omega) (by omega)]; omega) | (simp only [IntKind.wrap_i64]; omega)), hiL, next fun _ h6 => by rw [wru32, h6] at h5; simp at h5⟩, (by dsimp only; first | (rw [wr64 (by omega) (by omega)]; omega) | (rw [wr64 (by omega) (by omega), wr64 (by omega) (by omega)]; omega) | (simp only [IntKind.wrap_i64]; omega))⟩))
    have h5 : (getM z p D a).1.2.2.1 = id % 4294967296 := by rw [wru32] at h5; simpa using h5
    have hg : goodP z p D a id ks = true := goodP_iff.2 ⟨h0, h5, by rw [h4]; exact List.getElem_mem hiL⟩
    exact ⟨n03, ba, bc, _, _, [], rfl, by rw [hg]; rfl, fun _ => ⟨getM_len h0, g2.ar.new n3⟩⟩
  · have hlt : ¬ (i : Int) < (ks.length : Int) := of_decide_eq_false hlt
    obtain rfl : i = ks.length := by omega
    rw [List.take_length] at hno
    refine fin h3 n03 ?_
    cases hg : goodP z p D a id ks with
    | false => rfl
    | true => obtain ⟨q1, q2, q3⟩ := goodP_iff.1 hg; exact (hno q1 q2 q3).elim
theorem may_ok {k b : Nat} {t : Tags} {D : Dev} (hd : D.down = false) (z p g : Int) (hg : 0 ≤ g ∧ g ≤ 1000000) (da : Option Addr) (dl dc : Nat) (h : Heap) (r : PRep k t h b D) :
    CallsH Tryd.prog 71 [ptr b, geoV z p g, .slice da dl dc] h fun v h' => v = errV (if (dl : Int) = (g + 3) / 4 then 0 else 1) ∧ New h h' := by
  refine fun_ok Geo.hm' Tryd.func71 (by kernel_rfl) (F71_eq _ _ _ _ _ _ _ _ h) ?_
  unfold F71
  refine new_of fun h1 b1 n1 s1 => call_of (down_ok h1 (r.new n1)) ?_
  rintro v h' ⟨rfl, hh⟩; subst h'
  refine ⟨_, rfl, br_f hd (ld_of (c := .int .i64) g (by rw [add_mk, cellH_blk b1]; rfl) (call_of (tables_ok g h1 hg.1 hg.2) ?_))⟩
  rintro v h' ⟨rfl, hh⟩; subst h'
  refine ⟨_, rfl, br_of (fun hc => ?_) (fun hc => ?_)⟩
  · have hc : ¬ (dl : Int) = (g + 3) / 4 := by simpa using hc
    rw [if_neg hc]; exact ⟨rfl, n1⟩
  · have hc : (dl : Int) = (g + 3) / 4 := by simpa using hc
    rw [if_pos hc]; exact ⟨rfl, n1⟩
/-- What a map page says: the addresses, the code. -/
def plM (z p : Int) (D : Dev) (dir : List Int) (tb : Int) : Body.Pls × Int :=
  if tb < 0 ∨ (dir.length : Int) ≤ tb then ((0, 0, 0, 0), 1) else if dir.getD tb.toNat 0 = 0 then ((0, 0, 0, 0), 0)
  else if goodP z p D (dir.getD tb.toNat 0) tb [3] = true then (Body.plsOf (getM z p D (dir.getD tb.toNat 0)).2.1, 0) else ((0, 0, 0, 0), 10)
def PlaceP (z p : Int) (D : Dev) (dir : List Int) (tb : Int) (h : Heap) (v : Value) (h' : Heap) : Prop := New h h' ∧ ∃ e l, v = .tuple #[Body.plsV (plM z p D dir tb).1, e] ∧ ErrC h' e l (plM z p D dir tb).2
theorem places_ok {k b : Nat} {t : Tags} {D : Dev} {z p : Int} (gk : GOk z p D) (hd : D.down = false) (g : Int) (hg : 0 ≤ g ∧ g ≤ 1000000) (da : Option Addr) (dc : Nat) (dir : List Int) (hdl : (dir.length : Int) = (g + 3) / 4) (hdx : ∀ x ∈ dir, 0 ≤ x ∧ x < 4294967296) (tb : Int) (h : Heap) (r : PRep k t h b D) (dr : Ar .u32 h da dir) :
    CallsH Tryd.prog 63 [ptr b, geoV z p g, .slice da dir.length dc, .int .i64 tb] h (PlaceP z p D dir tb h) := by
  refine fun_ok Geo.hm' Tryd.func63 (by kernel_rfl) (F63_eq _ _ _ _ _ _ _ _ _ h) ?_
  unfold F63
  rw [Body.zeroP]
  refine new_of fun h1 b1 n1 s1 => new_of fun h2 b2 n2 s2 => ldAgg_blk (z, p, g) (b1.new n2) ⟨rfl, rfl, rfl, trivial⟩ (call_of (may_ok hd z p g hg da dir.length dc h2 (r.new (n1.trans n2))) ?_)
  rintro v h3 ⟨rfl, n3⟩
  rw [if_pos hdl]
  have n03 := (n1.trans n2).trans n3
  refine ⟨.nilIface, rfl, .inl rfl, br_f rfl ?_⟩
  have out : ∀ h4 (x : Body.Pls) (e : Value) (l : List (ByteArray × Int)) (c : Int), Blk h4 h1.size #[.int .u32 0, .int .u32 0, .int .u32 0, .int .u32 0] 72 → New h h4 → ErrC h4 e l c → plM z p D dir tb = (x, c) →
      stLW ⟨h1.size, 0, none⟩ [.int .u32 x.1, .int .u32 x.2.1, .int .u32 x.2.2.1, .int .u32 x.2.2.2] (fun h5 => ldAggW [.int .u32, .int .u32, .int .u32, .int .u32] ⟨h1.size, 0, none⟩ (fun (y : Int × Int × Int × Int) =>
        PlaceP z p D dir tb h (.tuple #[.agg #[.int .u32 y.1, .int .u32 y.2.1, .int .u32 y.2.2.1, .int .u32 y.2.2.2], e]) h5) h5) h4 := by
    intro h4 x e l c b4 n4 he hp
    refine stL_blk b4 (Nat.le_refl 4) fun h5 b5 o5 => ?_
    rw [setsA_all (by rfl)] at b5
    refine ldAgg_blk x b5 ⟨rfl, rfl, rfl, rfl, trivial⟩ ?_
    exact ⟨o5.upd.new n4 (by have := n1.size; omega), e, l, by rw [hp]; rfl, by rw [hp]; exact errs b4 (by decide) o5 he⟩
  refine cut_q (fun _ h' => h' = h3 ∧ 0 ≤ tb ∧ tb < (dir.length : Int)) ?_ fun K kk => ?_
  rotate_left
  · refine br_of (fun h0 => ?_) (fun h0 => br_of (fun h4 => ?_) (fun h4 => ?_))
    · exact out h3 (0, 0, 0, 0) _ [] 1 (b2.new n3) n03 rfl (if_pos (.inl (of_decide_eq_true h0)))
    · exact out h3 (0, 0, 0, 0) _ [] 1 (b2.new n3) n03 rfl (if_pos (.inr (of_decide_eq_true h4)))
    · have h0 := of_decide_eq_false h0
      have h4 := of_decide_eq_false h4
      exact kk () h3 ⟨rfl, by omega, by omega⟩
  rintro _ h' ⟨hh, h0, h4⟩ _; subst h'
  obtain ⟨i, rfl⟩ := Int.eq_ofNat_of_zero_le h0
  have hiL : i < dir.length := by omega
  have hx : dir.getD (i : Int).toNat 0 = dir[i] := by rw [Int.toNat_natCast, List.getD_eq_getElem?_getD, List.getElem?_eq_getElem hiL]; rfl
  have hr := hdx _ (List.getElem_mem hiL)
  have hpl : plM z p D dir (i : Int) = if dir[i] = 0 then ((0, 0, 0, 0), 0) else if goodP z p D dir[i] i [3] = true then (Body.plsOf (getM z p D dir[i]).2.1, 0) else ((0, 0, 0, 0), 10) := by
    unfold plM; rw [hx, if_neg (by omega)]
  have dr3 := dr.new n03
  refine ix_ld dr3 hiL hiL (br_of (fun h5 => ?_) (fun h5 => ?_))
  · have h5 : dir[i] = 0 := by simpa using h5
    rw [if_pos h5] at hpl
    exact out h3 (0, 0, 0, 0) _ [] 0 (b2.new n3) n03 rfl hpl
  have h5 : ¬ dir[i] = 0 := by simpa using h5
  rw [if_neg h5] at hpl
  refine ldAgg_blk (z, p, g) ((b1.new n2).new n3) ⟨rfl, rfl, rfl, trivial⟩ (ix_ld dr3 hiL hiL (new_of fun h6 b6 n6 s6 => call_of (page_ok gk hd g dir[i] i hr (some ⟨h3.size, 0, none⟩) 1 [3] (by decide) h6 (r.new (n03.trans n6)) (Ar.blk b6)) ?_))
  rintro v h7 ⟨n7, ba, bc, n, e, l, rfl, he, hgo⟩
  refine ⟨((ba, n, bc), e), rfl, he.ok.1, ?_⟩
  rw [he.ok.2]
  have n07 := (n03.trans n6).trans n7
  have b7 := ((b2.new n3).new n6).new n7
  refine br_of (fun h8 => ?_) (fun h8 => ?_)
  · cases hgd : goodP z p D dir[i] i [3] with
    | true => rw [hgd] at h8; simp at h8
    | false =>
      rw [hgd] at he hpl
      refine call_of (wrap_ok _ _ e l 10 h7 (by decide) he) ?_
      rintro v h9 ⟨e9, n9⟩
      exact ⟨v, rfl, out h9 (0, 0, 0, 0) v _ 10 (b7.new n9) (n07.trans n9) e9 hpl⟩
  · cases hgd : goodP z p D dir[i] i [3] with
    | false => rw [hgd] at h8; simp at h8
    | true =>
      obtain ⟨hn, har⟩ := hgo hgd
      rw [hgd] at hpl
      subst hn
      refine call_of (Body.toPlaces_ok ba bc _ h7 (getM_len (goodP_iff.1 hgd).1) (getM_byt gk.ok _) har) ?_
      rintro v h9 ⟨rfl, n9⟩
      exact ⟨(Body.plsOf (getM z p D dir[i]).2.1, .nilIface), rfl, out h9 _ _ [] 0 (b7.new n9) (n07.trans n9) rfl hpl⟩
end Go.Proofs.YthimfpkkdhpceaaDoor.Dir
/-
  Maps of numbers by their blocks. Over any program.
-/
namespace Go.Pl
variable {α : Type}
/-- What pairs say of a key; a pair that is put. -/
def getP : List (Int × α) → Int → Option α
  | [], _ => none
  | q :: r, k => if q.1 = k then some q.2 else getP r k
def putP : List (Int × α) → Int → α → List (Int × α)
  | [], k, x => [(k, x)]
  | q :: r, k, x => if q.1 = k then (k, x) :: r else q :: putP r k x
theorem getP_put (k j : Int) (x : α) : ∀ m : List (Int × α), getP (putP m k x) j = if k = j then some x else getP m j
  | [] => rfl
  | q :: r => by
    unfold putP
    by_cases h : q.1 = k
    · rw [if_pos h]
      show (if k = j then some x else getP r j) = if k = j then some x else if q.1 = j then some q.2 else getP r j
      by_cases hj : k = j
      · rw [if_pos hj, if_pos hj]
      · rw [if_neg hj, if_neg hj, if_neg (by rw [h]; exact hj)]
    · rw [if_neg h]
      show (if q.1 = j then some q.2 else getP (putP r k x) j) = if k = j then some x else if q.1 = j then some q.2 else getP r j
      rw [getP_put k j x r]
      by_cases hj : q.1 = j
      · rw [if_pos hj, if_neg (fun e => h (by rw [hj, e])), if_pos hj]
      · rw [if_neg hj, if_neg hj]
/-- A block is a map of numbers. -/
def pairs (es : List MapEntry) : List (Value × Value) := es.map fun e => (e.key, e.val)
def MapB (h : Heap) (b : Nat) (kk : IntKind) (f : α → Value) (m : List (Int × α)) : Prop :=
  ∃ es clock, h[b]? = some (.map es clock) ∧ pairs es.toList = m.map fun q => (Value.int kk q.1, f q.2)
theorem MapB.lt {h : Heap} {b : Nat} {kk : IntKind} {f : α → Value} {m : List (Int × α)} (r : MapB h b kk f m) : b < h.size := by
  obtain ⟨es, clock, hb, _⟩ := r; exact (Array.getElem?_eq_some_iff.1 hb).1
theorem MapB.same {h h' : Heap} {b : Nat} {kk : IntKind} {f : α → Value} {m : List (Int × α)} (r : MapB h b kk f m) (e : h'[b]? = h[b]?) : MapB h' b kk f m := by
  obtain ⟨es, clock, hb, hm⟩ := r; exact ⟨es, clock, e.trans hb, hm⟩
theorem MapB.new {h h' : Heap} {b : Nat} {kk : IntKind} {f : α → Value} {m : List (Int × α)} (r : MapB h b kk f m) (n : New h h') : MapB h' b kk f m := r.same (n.same b r.lt)
theorem MapB.only {h h' : Heap} {b c : Nat} {kk : IntKind} {f : α → Value} {m : List (Int × α)} (r : MapB h b kk f m) (n : Only c h h') (hne : b ≠ c) : MapB h' b kk f m := r.same (n.same b hne)
theorem findNow_pairs (kk : IntKind) (f : α → Value) (k : Int) : ∀ (m : List (Int × α)) (es : List MapEntry) (i : Nat), pairs es = m.map (fun q => (Value.int kk q.1, f q.2)) →
    (Instr.findNow (.int kk) (.int kk k) es i = some none ∧ getP m k = none ∧ ∀ x, putP m k x = m ++ [(k, x)]) ∨
    ∃ j y, Instr.findNow (.int kk) (.int kk k) es i = some (some (i + j, f y)) ∧ getP m k = some y ∧ (∃ e, es[j]? = some e ∧ e.key = .int kk k) ∧
      ∀ x, pairs (es.modify j fun e => { e with key := .int kk k, val := f x }) = (putP m k x).map fun q => (Value.int kk q.1, f q.2)
  | [], [], _, _ => .inl ⟨rfl, rfl, fun _ => rfl⟩
  | [], _ :: _, _, h => by simp [pairs] at h
  | _ :: _, [], _, h => by simp [pairs] at h
  | q :: m, e :: es, i, h => by
    have h0 : (e.key, e.val) = (Value.int kk q.1, f q.2) ∧ pairs es = m.map fun q => (Value.int kk q.1, f q.2) := by simpa [pairs] using h
    obtain ⟨h1, h2⟩ := h0
    have hk : e.key = .int kk q.1 := congrArg Prod.fst h1
    have hv : e.val = f q.2 := congrArg Prod.snd h1
    have hs : Instr.sameNow (.int kk) (.int kk k) e.key = some (k == q.1) := by rw [hk]; simp [Instr.sameNow]
    by_cases hq : q.1 = k
    · refine .inr ⟨0, q.2, ?_, ?_, ⟨e, rfl, by rw [hk, hq]⟩, fun x => ?_⟩
      · unfold Instr.findNow
        rw [hs, show (k == q.1) = true by simp [hq], hv]; rfl
      · exact if_pos hq
      · unfold putP
        rw [if_pos hq]
        show pairs ({ e with key := .int kk k, val := f x } :: es) = _
        have : pairs ({ e with key := .int kk k, val := f x } :: es) = (Value.int kk k, f x) :: pairs es := rfl
        rw [this, h2]; rfl
    · have hf : Instr.findNow (.int kk) (.int kk k) (e :: es) i = Instr.findNow (.int kk) (.int kk k) es (i + 1) := by
        show (match Instr.sameNow (.int kk) (.int kk k) e.key with | some true => some (some (i, e.val)) | some false => Instr.findNow (.int kk) (.int kk k) es (i + 1) | none => none) = _
        rw [hs, show (k == q.1) = false by simpa using fun e => hq e.symm]
      rw [hf]
      have hg : getP (q :: m) k = getP m k := if_neg hq
      have hp : ∀ x, putP (q :: m) k x = q :: putP m k x := fun x => if_neg hq
      rcases findNow_pairs kk f k m es (i + 1) h2 with ⟨a1, a2, a3⟩ | ⟨j, y, a1, a2, ⟨e', a3, a4⟩, a5⟩
      · exact .inl ⟨a1, by rw [hg]; exact a2, fun x => by rw [hp, a3]; rfl⟩
      · refine .inr ⟨j + 1, y, by rw [a1, show i + 1 + j = i + (j + 1) by omega], by rw [hg]; exact a2, ⟨e', a3, a4⟩, fun x => ?_⟩
        rw [hp]
        show pairs (e :: es.modify j fun e => { e with key := .int kk k, val := f x }) = _
        have : pairs (e :: es.modify j fun e => { e with key := .int kk k, val := f x }) = (e.key, e.val) :: pairs (es.modify j fun e => { e with key := .int kk k, val := f x }) := rfl
        rw [this, a5, h1]; rfl
variable {P : Program}
theorem mkm_of {t : TypeId} {kk : IntKind} {f : α → Value} {F : Option Nat → Heap → Prop} {h : Heap} (hF : ∀ h', MapB h' h.size kk f [] → New h h' → h'.size = h.size + 1 → F (some h.size) h') : mkmW P t F h := by
  rintro w rfl
  refine ⟨some w.heap.size, w.alloc (.map #[] 0), rfl, hF _ ⟨#[], 0, (MapKept.heap_alloc w _).1, rfl⟩ (New.push _ _) ?_, Rest.alloc _ _⟩
  show (w.heap.push _).size = _
  simp
theorem run_checkInt {kt : TypeId} {kk : IntKind} {k : Int} (hk : P.underlying kt = some (.int kk)) (e : Bool) (w : World) : (Instr.checkKey e 10000 kt (.int kk k)).run P w = .ok () w :=
  MapKept.run_checkKey (k := .int kk k) hk (by simp [MapKept.IsKey]) e 9999
theorem lk_of {t kt e : TypeId} {b : Nat} {kk : IntKind} {k : Int} {f : α → Value} {m : List (Int × α)} {zv : Value} {T : Ty} {F : T.T → Prop} {h : Heap} (hu : P.underlying t = some (.map kt e)) (hk : P.underlying kt = some (.int kk))
    (hz : ∀ w, (zeroValue e).run P w = .ok zv w) (r : MapB h b kk f m) (x : T.T) (hx : T.val x = match getP m k with | some y => f y | none => zv) (hF : F x) : lkW P t T (.map (some b)) (.int kk k) F h := by
  rintro w rfl
  refine ⟨x, ?_, hF⟩
  obtain ⟨es, clock, hb, hm⟩ := r
  rw [hx]
  rcases findNow_pairs kk f k m es.toList 0 hm with ⟨a1, a2, _⟩ | ⟨j, y, a1, a2, _⟩
  · have hf := MapKept.run_findKey (w := w) hk a1
    rw [a2]
    simp [Instr.lookup, run_underlying' hu, MapKept.run_getObj_map hb, run_checkInt hk, hf, hz, Result.andThen]
  · have hf := MapKept.run_findKey (w := w) hk a1
    rw [a2]
    simp [Instr.lookup, run_underlying' hu, MapKept.run_getObj_map hb, run_checkInt hk, hf, Result.andThen]
theorem stays_int (kk : IntKind) (k : Int) (w : World) : (Instr.keyThatStays (.int kk k) (.int kk k)).run P w = .ok (.int kk k) w := by
  have : Instr.sameBits 10000 (.int kk k) (.int kk k) = true := by simp [Instr.sameBits]
  simp [Instr.keyThatStays, this]
theorem rest_map {w : World} {b : Nat} {es : Array MapEntry} {c : Nat} (hb : w.heap[b]? = some (.map es c)) (o : Obj) : Rest w { w with heap := w.heap.setIfInBounds b o } := by
  refine ⟨rfl, rfl, rfl, by simp, fun i x hi hp => ?_⟩
  by_cases e : i = b
  · subst e
    rw [hb] at hi
    injection hi with hi
    subst hi
    cases hp
  · show (w.heap.setIfInBounds b o)[i]? = some x
    rw [Array.getElem?_setIfInBounds_ne (fun e2 => e e2.symm)]; exact hi
theorem mu_of {t kt e : TypeId} {b : Nat} {kk : IntKind} {k : Int} {f : α → Value} {m : List (Int × α)} (x : α) {F : Heap → Prop} {h : Heap} (hu : P.underlying t = some (.map kt e)) (hk : P.underlying kt = some (.int kk))
    (r : MapB h b kk f m) (hF : ∀ h', MapB h' b kk f (putP m k x) → Only b h h' → F h') : muW P t (.map (some b)) (.int kk k) (f x) F h := by
  rintro w rfl
  obtain ⟨es, clock, hb, hm⟩ := r
  have hlt : b < w.heap.size := (Array.getElem?_eq_some_iff.1 hb).1
  have hon : ∀ o, Only b w.heap (w.heap.setIfInBounds b o) := fun o => ⟨by simp, fun i hi => Array.getElem?_setIfInBounds_ne (Ne.symm hi)⟩
  have hat : ∀ o, (w.heap.setIfInBounds b o)[b]? = some o := fun o => by simp [hlt]
  rcases findNow_pairs kk f k m es.toList 0 hm with ⟨a1, a2, a3⟩ | ⟨j, y, a1, a2, ⟨e', a3, a4⟩, a5⟩
  · have hf := MapKept.run_findKey (w := w) hk a1
    refine ⟨{ w with heap := w.heap.setIfInBounds b (.map (es.push { key := .int kk k, val := f x, born := clock }) (clock + 1)) }, ?_, hF _ ⟨_, _, hat _, ?_⟩ (hon _), rest_map hb _⟩
    · simp [Instr.mapUpdate, run_underlying' hu, MapKept.run_getObj_map hb, run_checkInt hk, hf, MapKept.run_setObj_map _ hb, Result.andThen]
    · rw [a3, List.map_append, ← hm]; simp [pairs]
  · have hf := MapKept.run_findKey (w := w) hk a1
    have hj : es[j]? = some e' := by rw [← Array.getElem?_toList]; exact a3
    have hst := stays_int (P := P) kk k w
    refine ⟨{ w with heap := w.heap.setIfInBounds b (.map (es.modify j fun e => { e with key := .int kk k, val := f x }) clock) }, ?_, hF _ ⟨_, _, hat _, ?_⟩ (hon _), rest_map hb _⟩
    · simp [Instr.mapUpdate, run_underlying' hu, MapKept.run_getObj_map hb, run_checkInt hk, hf, hj, a4, hst, MapKept.run_setObj_map _ hb, Result.andThen]
    · rw [Array.toList_modify]; exact a5 x
end Go.Pl
/-
  The contracts of package dir, where the power is there: All where all is told, Sound.
-/
namespace Go.Proofs.YthimfpkkdhpceaaDoor.Dir
open Go.Pl Go.Proofs.YthimfpkkdhpceaaDoor.W Go.Proofs.YthimfpkkdhpceaaDoor.Byts Go.Proofs.YthimfpkkdhpceaaDoor.As Go.Proofs.YthimfpkkdhpceaaDoor.Err Go.Proofs.YthimfpkkdhpceaaDoor.Head Go.Proofs.YthimfpkkdhpceaaDoor.HdP Go.Proofs.YthimfpkkdhpceaaDoor.Zns Go.Proofs.YthimfpkkdhpceaaDoor.ZnsP Go.Proofs.YthimfpkkdhpceaaDoor.Geo Go.Proofs.YthimfpkkdhpceaaDoor.Med
/- WHAT IS LOOKED FOR. -/
def lookM (z p : Int) (D : Dev) (ks : List Int) : List Int → Nat → List Int → Bool × List Int
  | seen, _, [] => (true, seen)
  | seen, i, a :: r => if a = 0 then lookM z p D ks seen (i + 1) r else if a ∈ seen then (false, seen) else if goodP z p D a (i : Int) ks = true then lookM z p D ks (seen ++ [a]) (i + 1) r else (false, seen)
abbrev encI : Int → Value := fun x => .int .i64 x
def Seen (h : Heap) (mb : Nat) (seen : List Int) : Prop := ∃ m, MapB h mb .u32 encI m ∧ ∀ k, getP m k = if k ∈ seen then some 1 else none
theorem Seen.new {h h' : Heap} {mb : Nat} {seen : List Int} (s : Seen h mb seen) (n : New h h') : Seen h' mb seen := by
  obtain ⟨m, r, e⟩ := s; exact ⟨m, r.new n, e⟩
theorem Seen.only {h h' : Heap} {mb c : Nat} {seen : List Int} (s : Seen h mb seen) (n : Only c h h') (hne : mb ≠ c) : Seen h' mb seen := by
  obtain ⟨m, r, e⟩ := s; exact ⟨m, r.only n hne, e⟩
abbrev TM : TypeId := 130
theorem uM : Tryd.prog.underlying TM = some (.map 22 3) := by kernel_rfl
theorem uK : Tryd.prog.underlying 22 = some (.int .u32) := by kernel_rfl
theorem zI (w : World) : (zeroValue 3).run Tryd.prog w = .ok (.int .i64 0) w := by kernel_rfl
theorem zeroM : zeroC Tryd.prog TM = #[.map none] := by kernel_rfl
/-- A device where a map of another owner is turned. -/
theorem PRep.side {k b mb : Nat} {t : Tags} {D : Dev} {h h' : Heap} (r : PRep k t h b D) (ht : t mb = (k + 1, 0)) (u : Upd mb h h') : PRep k t h' b D := by
  have f : Fr (fun q : Nat × Nat => q.1 = 0 ∨ q.1 = k) t h t h' := Fr.upd u (by rw [ht]; simp)
  exact r.fr f (fun q hq => .inl hq) fun _ => .inr rfl
def LookP (z p : Int) (D : Dev) (ks seen l : List Int) (mb : Nat) (h : Heap) (v : Value) (h' : Heap) : Prop :=
  Upd mb h h' ∧ ∃ e, ErrC h' v e (if (lookM z p D ks seen 0 l).1 = true then 0 else 10) ∧ ((lookM z p D ks seen 0 l).1 = true → Seen h' mb (lookM z p D ks seen 0 l).2)
theorem look_ok {k b : Nat} {t : Tags} {D : Dev} {z p g : Int} (gk : GOk z p D) (hd : D.down = false) (la : Option Addr) (lc : Nat) (l : List Int) (hl : l.length ≤ 1000) (hx : ∀ x ∈ l, 0 ≤ x ∧ x < 4294967296) (ka : Option Addr) (kc : Nat) (ks : List Int) (hks : ks.length ≤ 100)
    (c0 c1 c2 mb : Nat) (T0 T1 T2 : TypeId) (seen : List Int) (h : Heap) (r : PRep k t h b D) (lr : Ar .u32 h la l) (kr : Ar .u8 h ka ks) (b0 : Blk h c0 #[.map (some mb)] T0) (b1 : Blk h c1 #[ptr b] T1) (b2 : Blk h c2 #[.int .i64 z, .int .i64 p, .int .i64 g] T2)
    (ht : t mb = (k + 1, 0)) (hs : Seen h mb seen) (n0 : c0 ≠ mb) (n1 : c1 ≠ mb) (n2 : c2 ≠ mb) (nl : blkOf la ≠ some mb) (nk : blkOf ka ≠ some mb) :
    CallsH Tryd.prog 72 [.slice la l.length lc, .slice ka ks.length kc, ptr c0, ptr c1, ptr c2] h (LookP z p D ks seen l mb h) := by
  refine fun_ok Geo.hm' Tryd.func72 (by kernel_rfl) (F72_eq _ _ _ _ _ _ _ _ _ _ h) ?_
  unfold F72
  refine ⟨fun (s : Int) h' => Upd mb h h' ∧ ∃ (i : Nat) (sn : List Int), s = i ∧ i ≤ l.length ∧ Seen h' mb sn ∧ lookM z p D ks seen 0 l = lookM z p D ks sn i (l.drop i), fun (s : Int) _ => ((l.length : Int) - s).toNat, ⟨Upd.refl _ _, 0, seen, rfl, Nat.zero_le _, hs, rfl⟩, ?_⟩
  rintro s j h3 ⟨u3, i, sn, rfl, hi, hsn, hq⟩
  refine br_of (fun hlt => ?_) (fun hlt => ?_)
  rotate_left
  · have hlt : ¬ (i : Int) < (l.length : Int) := of_decide_eq_false hlt
    rw [List.drop_eq_nil_of_le (by omega)] at hq
    refine ⟨u3, [], by rw [hq]; rfl, fun _ => by rw [hq]; exact hsn⟩
  have hlt : (i : Int) < (l.length : Int) := of_decide_eq_true hlt
  have hiL : i < l.length := by omega
  rw [List.drop_eq_getElem_cons hiL] at hq
  have hxi := hx _ (List.getElem_mem hiL)
  generalize hxe : l[i] = x at hq hxi
  have hq' : lookM z p D ks sn i (x :: l.drop (i + 1)) = if x = 0 then lookM z p D ks sn (i + 1) (l.drop (i + 1)) else if x ∈ sn then (false, sn) else if goodP z p D x (i : Int) ks = true then lookM z p D ks (sn ++ [x]) (i + 1) (l.drop (i + 1)) else (false, sn) := rfl
  rw [hq'] at hq
  refine ix_ld (lr.upd u3 nl) hiL hiL ?_
  rw [hxe]
  refine br_of (fun h0 => ?_) (fun h0 => ?_)
  · have h0 : x = 0 := by simpa using h0
    rw [if_pos h0] at hq
    exact ⟨⟨u3, i + 1, sn, (by first | (rw [wr64 (by omega) (by omega)]; omega) | (simp only [IntKind.wrap_i64]; omega)), hiL, hsn, hq⟩, (by dsimp only; first | (rw [wr64 (by omega) (by omega)]; omega) | (rw [wr64 (by omega) (by omega), wr64 (by omega) (by omega)]; omega) | (simp only [IntKind.wrap_i64]; omega))⟩
  have h0 : ¬ x = 0 := by simpa using h0
  rw [if_neg h0] at hq
  obtain ⟨m, mr, hm⟩ := hsn
  have hmx := hm x
  obtain ⟨n, hn⟩ : ∃ n : Int, n = if x ∈ sn then 1 else 0 := ⟨_, rfl⟩
  refine ld_of (c := .map) (some mb) (by rw [cellH_blk (b0.upd u3 n0)]; rfl) (lk_of uM uK zI mr n (by rw [hmx, hn]; by_cases hin : x ∈ sn <;> simp only [hin, if_true, if_false] <;> rfl) ?_)
  obtain ⟨w, hw⟩ : ∃ w : Int, w = IntKind.wrap .i64 (n + 1) := ⟨_, rfl⟩
  rw [← hw]
  have hw2 : w = if x ∈ sn then 2 else 1 := by
    rw [hw, hn]
    by_cases hin : x ∈ sn
    · rw [if_pos hin, if_pos hin]; rfl
    · rw [if_neg hin, if_neg hin]; rfl
  refine mu_of (f := encI) w uM uK mr fun h4 mr4 o4 => ?_
  have u4 : Upd mb h h4 := u3.trans o4.upd
  refine ld_of (c := .map) (some mb) (by rw [cellH_blk (b0.upd u4 n0)]; rfl) (lk_of uM uK zI mr4 w (by rw [getP_put, if_pos rfl]; rfl) (br_of (fun h5 => ?_) (fun h5 => ?_)))
  · have hin : x ∈ sn := by
      refine Classical.not_not.1 fun hn => ?_
      rw [hw2, if_neg hn] at h5; cases h5
    rw [if_pos hin] at hq
    refine call_of (wrap_v _ _ 10 h4) ?_
    rintro v h6 ⟨e, he, n6⟩
    refine ⟨v, rfl, ⟨u4.trans n6.upd, e, by rw [hq]; exact he, fun hh => by rw [hq] at hh; cases hh⟩⟩
  · have hin : ¬ x ∈ sn := fun hn => by rw [hw2, if_pos hn] at h5; cases h5
    rw [if_neg hin] at hq
    have r4 := PRep.side r ht u4
    refine ld_of (c := .ptr) (some ⟨b, 0, none⟩) (by rw [cellH_blk (b1.upd u4 n1)]; rfl) (ldAgg_blk (z, p, g) (b2.upd u4 n2) ⟨rfl, rfl, rfl, trivial⟩ (call_of (page_ok gk hd g x i hxi ka kc ks hks h4 r4 (kr.upd u4 nk)) ?_))
    rintro v h6 ⟨n6, ba, bc, n', e, el, rfl, he, _⟩
    refine ⟨((ba, n', bc), e), rfl, he.ok.1, ?_⟩
    rw [he.ok.2]
    cases hgd : goodP z p D x (i : Int) ks with
    | false =>
      rw [hgd] at he hq
      refine br_t (by simp) ⟨u4.trans n6.upd, el, ?_, fun hh => ?_⟩
      · rw [hq]; exact he
      · rw [hq] at hh; cases hh
    | true =>
      rw [hgd] at he hq
      refine br_f (by simp) ⟨⟨u4.trans n6.upd, i + 1, sn ++ [x], (by first | (rw [wr64 (by omega) (by omega)]; omega) | (simp only [IntKind.wrap_i64]; omega)), hiL, ⟨_, mr4.new n6, fun q => ?_⟩, hq⟩, (by dsimp only; first | (rw [wr64 (by omega) (by omega)]; omega) | (rw [wr64 (by omega) (by omega), wr64 (by omega) (by omega)]; omega) | (simp only [IntKind.wrap_i64]; omega))⟩
      rw [if_neg hin] at hw2
      rw [getP_put, hm q, hw2]
      by_cases hqx : x = q
      · subst hqx; simp
      · rw [if_neg hqx]
        have : (q ∈ sn ++ [x]) ↔ q ∈ sn := by rw [List.mem_append, List.mem_singleton]; exact ⟨fun hh => hh.elim id fun e => (hqx e.symm).elim, .inl⟩
        by_cases hqs : q ∈ sn
        · rw [if_pos hqs, if_pos (this.2 hqs)]
        · rw [if_neg hqs, if_neg (fun hh => hqs (this.1 hh))]
def soundM (z p : Int) (D : Dev) (dir all : List Int) : Bool := (lookM z p D [3] [] 0 dir).1 && (lookM z p D [1, 4] (lookM z p D [3] [] 0 dir).2 0 all).1
def SoundP (z p : Int) (D : Dev) (dir all : List Int) (h : Heap) (v : Value) (h' : Heap) : Prop := New h h' ∧ ∃ e, ErrC h' v e (if soundM z p D dir all = true then 0 else 10)
theorem sound_ok {k b : Nat} {t : Tags} {D : Dev} {z p : Int} (gk : GOk z p D) (hd : D.down = false) (g : Int) (hg : 0 ≤ g ∧ g ≤ 1000) (da aa : Option Addr) (dc ac : Nat) (dir all : List Int) (hdl : (dir.length : Int) = (g + 3) / 4) (hal : (all.length : Int) = g)
    (hdx : ∀ x ∈ dir, 0 ≤ x ∧ x < 4294967296) (hax : ∀ x ∈ all, 0 ≤ x ∧ x < 4294967296) (h : Heap) (r : PRep k t h b D) (dr : Ar .u32 h da dir) (ar : Ar .u32 h aa all) (hdb : ∀ q, blkOf da = some q → q < h.size) (hab : ∀ q, blkOf aa = some q → q < h.size) :
    CallsH Tryd.prog 36 [ptr b, geoV z p g, .slice da dir.length dc, .slice aa all.length ac] h (SoundP z p D dir all h) := by
  refine fun_ok Geo.hm' Tryd.func36 (by kernel_rfl) (F36_eq _ _ _ _ _ _ _ _ _ _ _ h) ?_
  unfold F36
  rw [zeroM]
  refine new_of fun h1 b1 m1 s1 => new_of fun h2 b2 m2 s2 => ld_of (c := .ptr) (some ⟨b, 0, none⟩) (by rw [cellH_blk (b1.new m2)]; rfl) (ldAgg_blk (z, p, g) b2 ⟨rfl, rfl, rfl, trivial⟩ (call_of (may_ok hd z p g ⟨hg.1, by omega⟩ da dir.length dc h2 (r.new (m1.trans m2))) ?_))
  rintro v h3 ⟨rfl, m3⟩
  rw [if_pos hdl]
  have n03 := (m1.trans m2).trans m3
  refine ⟨.nilIface, rfl, .inl rfl, br_f rfl (ld_of (c := .int .i64) g (by rw [add_mk, cellH_blk (b2.new m3)]; rfl) (br_f (by simp [hal]) (mkm_of (kk := .u32) (f := encI) fun h4 mr4 m4 s4 => ?_)))⟩
  refine new_st fun h5 b5 m5 s5 => new_of fun h6 b6 m6 s6 => ?_
  have h12 := m2.size
  have h23 := m3.size
  have n04 := n03.trans m4
  have n46 := m5.trans m6
  have n06 := n04.trans n46
  have fl : Fr (fun _ => True) t h (lay t h.size (k + 1, 0)) h6 := Fr.lay n06 _
  have r6 : PRep k (lay t h.size (k + 1, 0)) h6 b D := r.fr fl (fun _ _ => trivial) fun _ => trivial
  have ht : lay t h.size (k + 1, 0) h3.size = (k + 1, 0) := by unfold lay; rw [if_neg (by omega)]
  have sn6 : Seen h6 h3.size [] := ⟨[], (mr4.new m5).new m6, fun _ => rfl⟩
  have c0 := b5.new m6
  have c1 : Blk h6 h.size #[ptr b] 59 := (((b1.new m2).new m3).new m4).new n46
  have c2 := (((b2).new m3).new m4).new n46
  have dr6 := dr.new n06
  refine callW_of (first := #[]) (cap := #[ptr h4.size, ptr h.size, ptr h1.size]) (look_ok (g := g) gk hd da dc dir (by omega) hdx (some ⟨h5.size, 0, none⟩) 1 [3] (by decide) h4.size h.size h1.size h3.size _ _ _ [] h6 r6 dr6 (Ar.blk b6) c0 c1 c2 ht sn6 (by omega) (by omega) (by omega)
    (fun e => by have := hdb _ e; omega) (fun e => by have e : h5.size = h3.size := Option.some.inj e; omega)) ?_
  rintro v h7 ⟨u7, e7, he7, hs7⟩
  have N7 : New h h7 := u7.new n06 (by omega)
  refine ⟨v, rfl, he7.ok.1, ?_⟩
  rw [he7.ok.2]
  by_cases hok : (lookM z p D [3] [] 0 dir).1 = true
  · rw [if_pos hok] at he7
    rw [if_pos hok]
    refine br_f (by simp) (new_of fun h8 b8 m8 s8 => ?_)
    have := u7.size
    refine callW_of (first := #[]) (cap := #[ptr h4.size, ptr h.size, ptr h1.size]) (look_ok (g := g) gk hd aa ac all (by omega) hax (some ⟨h7.size, 0, none⟩) 2 [1, 4] (by decide) h4.size h.size h1.size h3.size _ _ _ _ h8 ((PRep.side r6 ht u7).new m8) (ar.new (N7.trans m8)) (Ar.blk b8)
      ((c0.upd u7 (by omega)).new m8) ((c1.upd u7 (by omega)).new m8) ((c2.upd u7 (by omega)).new m8) ht ((hs7 hok).new m8) (by omega) (by omega) (by omega) (fun e => by have := hab _ e; omega) (fun e => by have e : h7.size = h3.size := Option.some.inj e; omega)) ?_
    rintro v h9 ⟨u9, e9, he9, _⟩
    refine ⟨v, rfl, u9.new (N7.trans m8) (by omega), e9, ?_⟩
    unfold soundM
    rw [hok]
    exact he9
  · have hok' : (lookM z p D [3] [] 0 dir).1 = false := by simpa using hok
    rw [if_neg hok] at he7
    rw [if_neg hok]
    refine br_t (by simp) ⟨N7, e7, ?_⟩
    unfold soundM
    rw [hok']
    exact he7
end Go.Proofs.YthimfpkkdhpceaaDoor.Dir
/-
  The contracts of package dir, where the power is there: All where all is told, Lay.
-/
namespace Go.Proofs.YthimfpkkdhpceaaDoor.Dir
open Go.Pl Go.Proofs.YthimfpkkdhpceaaDoor.W Go.Proofs.YthimfpkkdhpceaaDoor.Byts Go.Proofs.YthimfpkkdhpceaaDoor.As Go.Proofs.YthimfpkkdhpceaaDoor.Err Go.Proofs.YthimfpkkdhpceaaDoor.Head Go.Proofs.YthimfpkkdhpceaaDoor.HdP Go.Proofs.YthimfpkkdhpceaaDoor.Zns Go.Proofs.YthimfpkkdhpceaaDoor.ZnsP Go.Proofs.YthimfpkkdhpceaaDoor.Geo Go.Proofs.YthimfpkkdhpceaaDoor.Med
def pl4 (x : Body.Pls) : List Int := [x.1, x.2.1, x.2.2.1, x.2.2.2]
def flatP (z p : Int) (D : Dev) (dir : List Int) (n : Nat) : List Int := (List.range n).flatMap fun (i : Nat) => pl4 (plM z p D dir (i : Int)).1
theorem flatP_succ (z p : Int) (D : Dev) (dir : List Int) (n : Nat) : flatP z p D dir (n + 1) = flatP z p D dir n ++ pl4 (plM z p D dir (n : Int)).1 := by
  unfold flatP; rw [List.range_succ, List.flatMap_append]; simp
theorem flatP_len (z p : Int) (D : Dev) (dir : List Int) : ∀ n, (flatP z p D dir n).length = 4 * n
  | 0 => rfl
  | n + 1 => by rw [flatP_succ, List.length_append, flatP_len z p D dir n]; show 4 * n + 4 = _; omega
theorem apU : apB Tryd.prog 25 22 1 4 = true := by kernel_rfl
theorem base0 (a : Option Addr) (m : Nat) : sliceBase a 0 m 1 = a := by
  unfold sliceBase
  by_cases e : m = 0
  · rw [if_pos e]
  · rw [if_neg e]
    cases a with
    | none => rfl
    | some a => simp [Addr.add]
def AllP (z p g : Int) (D : Dev) (dir : List Int) (h : Heap) (v : Value) (h' : Heap) : Prop := New h h' ∧ ∃ a c, v = .tuple #[.slice a g.toNat c, .nilIface] ∧ Ar .u32 h' a ((flatP z p D dir dir.length).take g.toNat) ∧ ∀ q, blkOf a = some q → q < h'.size
theorem all_ok {k b : Nat} {t : Tags} {D : Dev} {z p : Int} (gk : GOk z p D) (hd : D.down = false) (g : Int) (hg : 1 ≤ g ∧ g ≤ 1000) (da : Option Addr) (dc : Nat) (dir : List Int) (hdl : (dir.length : Int) = (g + 3) / 4) (hdx : ∀ x ∈ dir, 0 ≤ x ∧ x < 4294967296) (h : Heap) (r : PRep k t h b D) (dr : Ar .u32 h da dir)
    (hok : ∀ i : Nat, i < dir.length → (plM z p D dir (i : Int)).2 = 0) (hz : ∀ x ∈ (flatP z p D dir dir.length).drop g.toNat, x = 0) :
    CallsH Tryd.prog 34 [ptr b, geoV z p g, .slice da dir.length dc] h (AllP z p g D dir h) := by
  refine fun_ok Geo.hm' Tryd.func34 (by kernel_rfl) (F34_eq _ _ _ _ _ _ _ _ h) ?_
  unfold F34
  rw [Body.zeroP]
  refine new_of fun h1 b1 m1 s1 => ldAgg_blk (z, p, g) b1 ⟨rfl, rfl, rfl, trivial⟩ (call_of (may_ok hd z p g ⟨by omega, by omega⟩ da dir.length dc h1 (r.new m1)) ?_)
  rintro v h2 ⟨rfl, m2⟩
  rw [if_pos hdl]
  refine ⟨.nilIface, rfl, .inl rfl, br_f rfl ?_⟩
  have hlen := flatP_len z p D dir
  refine ⟨fun (s : (Option Addr × Nat × Nat) × Int) h' => New h1 h' ∧ ∃ (a : Option Addr) (c i : Nat), s = ((a, (flatP z p D dir i).length, c), (i : Int)) ∧ i ≤ dir.length ∧ OwnH h' h1.size 22 1 a (flatP z p D dir i).length c ((flatP z p D dir i).map (Value.int .u32)), fun (s : (Option Addr × Nat × Nat) × Int) _ => ((dir.length : Int) - s.2).toNat, ⟨m2, none, 0, 0, rfl, Nat.zero_le _, OwnH.nil _ _ _ _⟩, ?_⟩
  rintro s j h3 ⟨m3, a, c, i, rfl, hi, ow⟩
  have b3 := b1.new m3
  refine br_of (fun hlt => ?_) (fun hlt => ?_)
  · have hlt : (i : Int) < (dir.length : Int) := of_decide_eq_true hlt
    have hiL : i < dir.length := by omega
    refine ldAgg_blk (z, p, g) b3 ⟨rfl, rfl, rfl, trivial⟩ (call_of (places_ok gk hd g ⟨by omega, by omega⟩ da dc dir hdl hdx (i : Int) h3 (r.new (m1.trans m3)) (dr.new (m1.trans m3))) ?_)
    rintro v h4 ⟨m4, e, l, rfl, he⟩
    rw [hok i hiL] at he
    refine ⟨((plM z p D dir (i : Int)).1, e), rfl, new_stL rfl fun h5 b5 m5 s5 => ⟨he.ok.1, ?_⟩⟩
    rw [he.ok.2]
    refine br_f (by simp) ⟨⟨by omega, by omega, by omega, by omega⟩, ?_⟩
    have n35 := m4.trans m5
    have ow5 : OwnH h5 h1.size 22 1 a (flatP z p D dir i).length c ((flatP z p D dir i).map (Value.int .u32)) := OwnH.grow ow n35
    refine ap_own apU Nat.one_pos ow5 (m := 4) (k := 4) (x := ⟨h4.size, 0, none⟩) ((pl4 (plM z p D dir (i : Int)).1).map (Value.int .u32)) rfl ?_ ?_ ?_ ?_ ?_ ?_
    · intro j u hj
      rw [add_mk, Nat.zero_add, cellH_blk b5]
      have : #[Value.int .u32 (plM z p D dir (i : Int)).1.1, .int .u32 (plM z p D dir (i : Int)).1.2.1, .int .u32 (plM z p D dir (i : Int)).1.2.2.1, .int .u32 (plM z p D dir (i : Int)).1.2.2.2] = ((pl4 (plM z p D dir (i : Int)).1).map (Value.int .u32)).toArray := rfl
      simpa [pl4] using hj
    · intro u hu
      obtain ⟨x, _, rfl⟩ := List.mem_map.1 hu
      rfl
    · rw [hlen]; simp [maxLen]; omega
    · rw [hlen]; omega
    · have := m3.size; have := n35.size; omega
    · intro a' c' h6 o6 u6
      have hab : Abo h1.size h5 h6 := u6.abo fun q hq => by
        rcases OwnH.row ow5 with ⟨_, ⟨rfl, _⟩ | ⟨q', cur, rfl, hb', _⟩⟩
        · cases hq
        · have : q' = q := Option.some.inj hq
          omega
      have hl2 : (flatP z p D dir i).length + 4 = (flatP z p D dir (i + 1)).length := by rw [hlen, hlen]; omega
      rw [← List.map_append, ← flatP_succ, hl2] at o6
      rw [hl2]
      exact ⟨⟨(Abo.from (m3.trans n35) hab (Nat.le_refl _)), a', c', i + 1, by rw [show IntKind.wrap .i64 ((i : Int) + 1) = ((i + 1 : Nat) : Int) by rw [wr64 (by omega) (by omega)]; omega], hiL, o6⟩, (by dsimp only; first | (rw [wr64 (by omega) (by omega)]; omega) | (rw [wr64 (by omega) (by omega), wr64 (by omega) (by omega)]; omega) | (simp only [IntKind.wrap_i64]; omega))⟩
  · have hlt : ¬ (i : Int) < (dir.length : Int) := of_decide_eq_false hlt
    obtain rfl : i = dir.length := by omega
    have L := hlen dir.length
    have hle : (flatP z p D dir dir.length).length ≤ c := by
      rcases OwnH.row ow with ⟨hl, ⟨_, h5, _⟩ | ⟨_, _, _, _, _, h5, _⟩⟩
      · rw [h5]; exact Nat.zero_le _
      · exact h5
    have hgl : g.toNat ≤ (flatP z p D dir dir.length).length := by rw [hlen]; omega
    have arr := Ar.own ow
    refine ld_of (c := .int .i64) g (by rw [add_mk, cellH_blk b3]; rfl) ⟨⟨(by first | omega | (dsimp only; omega) | (simp only []; omega)), (by first | omega | (dsimp only; omega) | (simp only []; omega)), (by first | omega | (dsimp only; omega) | (simp only []; omega)), (by first | omega | (dsimp only; omega) | (simp only []; omega))⟩, ?_⟩
    have ard := arr.drop g.toNat (((c : Int)).toNat) (by rw [Int.toNat_natCast]; by_cases e : c = g.toNat <;> omega)
    refine ⟨fun (s : Int) h' => h' = h3 ∧ ∃ i : Nat, s = i ∧ i ≤ (flatP z p D dir dir.length).length - g.toNat, fun (s : Int) _ => (((flatP z p D dir dir.length).length : Int) - s).toNat, ⟨rfl, 0, rfl, Nat.zero_le _⟩, ?_⟩
    rintro s j' h' ⟨hh, i, rfl, hi2⟩; subst h'
    refine br_of (fun hl2 => ?_) (fun _ => ?_)
    · have hl2 : (i : Int) < ((((flatP z p D dir dir.length).length : Int).toNat - g.toNat : Nat) : Int) := of_decide_eq_true hl2
      rw [Int.toNat_natCast] at hl2
      have hiL : i < ((flatP z p D dir dir.length).drop g.toNat).length := by rw [List.length_drop]; omega
      refine ix_ld ard hiL (by dsimp only; rw [Int.toNat_natCast]; omega) (br_f ?_ ⟨⟨rfl, i + 1, (by first | (rw [wr64 (by omega) (by omega)]; omega) | (simp only [IntKind.wrap_i64]; omega)), by omega⟩, (by dsimp only; first | (rw [wr64 (by omega) (by omega)]; omega) | (rw [wr64 (by omega) (by omega), wr64 (by omega) (by omega)]; omega) | (simp only [IntKind.wrap_i64]; omega))⟩)
      rw [hz _ (List.getElem_mem hiL)]; rfl
    · refine ld_of (c := .int .i64) g (by rw [add_mk, cellH_blk b3]; rfl) (ld_of (c := .int .i64) g (by rw [add_mk, cellH_blk b3]; rfl) ⟨⟨(by first | omega | (dsimp only; omega) | (simp only []; omega)), (by first | omega | (dsimp only; omega) | (simp only []; omega)), (by first | omega | (dsimp only; omega) | (simp only []; omega)), (by first | omega | (dsimp only; omega) | (simp only []; omega))⟩, ?_⟩)
      show AllP z p g D dir h (.tuple #[.slice (sliceBase a (Int.toNat 0) g.toNat 1) (g.toNat - Int.toNat 0) (g.toNat - Int.toNat 0), .nilIface]) _
      rw [show Int.toNat 0 = 0 from rfl, base0]
      refine ⟨m1.trans m3, a, _, rfl, arr.take _, fun q hq => ?_⟩
      rcases OwnH.row ow with ⟨_, ⟨rfl, _⟩ | ⟨q', cur, rfl, _, hb', _⟩⟩
      · cases hq
      · have : q' = q := Option.some.inj hq
        subst this; exact hb'.lt
theorem table_ok (n : Nat) (h : Heap) (hn : n < 64) : CallsH Tryd.prog 70 [.int .i64 n] h fun v h' => v = .tuple #[.int .i64 ((n / 4 : Nat) : Int), .int .i64 ((n % 4 : Nat) : Int)] ∧ h' = h := by
  refine fun_ok Geo.hm' Tryd.func70 (by kernel_rfl) (F70_eq _ _ h) ?_
  unfold F70
  have e : Int.tdiv (n : Int) 4 = ((n / 4 : Nat) : Int) := tdiv_nat (i := n) (k := 4)
  have e2 : Int.tmod (n : Int) 4 = ((n % 4 : Nat) : Int) := tmod_nat (i := n) (k := 4)
  rw [e, e2, wr64 (by omega) (by omega)]
  exact ⟨rfl, rfl⟩
/-- Entries that stand in a row; what they lay. -/
def EntR (h : Heap) (a : Option Addr) (es : List (Nat × Int)) : Prop := ∀ (i : Nat) (q : Nat × Int), es[i]? = some q → ∃ g cur T, a = some ⟨g, 0, none⟩ ∧ Blk h g cur T ∧ Pl.rowAt cur (i * 3) [.int .i64 (q.1 : Int), .int .u32 q.2, .bool false]
theorem EntR.new {h h' : Heap} {a : Option Addr} {es : List (Nat × Int)} (r : EntR h a es) (n : New h h') : EntR h' a es := fun i q hq => by
  obtain ⟨g, cur, T, e, hb, hr⟩ := r i q hq; exact ⟨g, cur, T, e, hb.new n, hr⟩
def layS (tb : Nat) (f : Nat → Int) (e : Nat × Int) : Nat → Int := if e.1 / 4 = tb then fun i => if i = e.1 % 4 then e.2 else f i else f
def layF (tb : Nat) (f : Nat → Int) (es : List (Nat × Int)) : Nat → Int := es.foldl (layS tb) f
abbrev plsW (f : Nat → Int) : Value := .agg #[.int .u32 (f 0), .int .u32 (f 1), .int .u32 (f 2), .int .u32 (f 3)]
theorem zeroN : zeroC Tryd.prog 69 = #[.int .i64 0, .int .u32 0, .bool false] := by kernel_rfl
theorem lay_ok (f0 : Nat → Int) (tb : Nat) (la : Option Addr) (lc : Nat) (es : List (Nat × Int)) (hes : ∀ q ∈ es, q.1 < 64) (hel : es.length ≤ 1000) (h : Heap) (lr : EntR h la es) :
    CallsH Tryd.prog 32 [plsW f0, .int .i64 (tb : Int), .slice la es.length lc] h fun v h' => v = plsW (layF tb f0 es) ∧ New h h' := by
  refine fun_ok Geo.hm' Tryd.func32 (by kernel_rfl) (F32_eq _ _ _ _ _ _ _ _ _ h) ?_
  unfold F32
  rw [Body.zeroP, zeroN]
  refine new_of fun h1 b1 m1 s1 => new_of fun h2 b2 m2 s2 => ?_
  refine ⟨fun (s : Int) h' => New h h' ∧ Blk h' h1.size #[.int .u32 0, .int .u32 0, .int .u32 0, .int .u32 0] 72 ∧ ∃ i : Nat, s = i ∧ i ≤ es.length ∧ Blk h' h.size (Body.wordsA (layF tb f0 (es.take i))) 72, fun (s : Int) _ => ((es.length : Int) - s).toNat, ⟨m1.trans m2, b2, 0, rfl, Nat.zero_le _, b1.new m2⟩, ?_⟩
  rintro s j h3 ⟨m3, d3, i, rfl, hi, c3⟩
  refine br_of (fun hlt => ?_) (fun hlt => ?_)
  · have hlt : (i : Int) < (es.length : Int) := of_decide_eq_true hlt
    have hiL : i < es.length := by omega
    obtain ⟨g, cur, T, rfl, hb, hr⟩ := (lr.new m3) i es[i] (List.getElem?_eq_getElem hiL)
    have h64 := hes _ (List.getElem_mem hiL)
    have htk : layF tb f0 (es.take (i + 1)) = layS tb (layF tb f0 (es.take i)) es[i] := by
      unfold layF; rw [← List.take_append_getElem hiL, List.foldl_append]; rfl
    generalize es[i] = q at hr h64 htk
    refine ⟨⟨by omega, rfl⟩, ?_⟩
    rw [Int.toNat_natCast, add_mk, Nat.zero_add]
    refine ldAgg_blk ((q.1 : Int), q.2, false) hb hr (new_stL rfl fun h4 b4 m4 s4 => ?_)
    have c4 := c3.new m4
    have k4 : cellH h4 (Addr.add ⟨h3.size, 0, none⟩ 0) = some (.int .i64 (q.1 : Int)) := by rw [add_mk, cellH_blk b4]; rfl
    refine ld_of (c := .int .i64) (q.1 : Int) k4 (br_f (decide_eq_false (by omega)) (ld_of (c := .int .i64) (q.1 : Int) k4 (call_of (table_ok q.1 h4 h64) ?_)))
    rintro v h' ⟨rfl, hh⟩; subst h'
    refine ⟨(((q.1 / 4 : Nat) : Int), ((q.1 % 4 : Nat) : Int)), rfl, br_of (fun he => ?_) (fun he => ?_)⟩
    · have he : q.1 / 4 = tb := by have : ((q.1 / 4 : Nat) : Int) = (tb : Int) := by simpa using he
                                   omega
      refine ld_of (c := .int .u32) q.2 (by rw [add_mk, cellH_blk b4]; rfl) ⟨⟨by omega, rfl⟩, ?_⟩
      rw [Int.toNat_natCast, add_mk, Nat.zero_add, Nat.mul_one]
      refine st_blk c4 (by show q.1 % 4 < 4; omega) fun h5 c5 o5 => ?_
      rw [Body.wordsA_set _ (by omega)] at c5
      have e5 : layF tb f0 (es.take (i + 1)) = fun k => if k = q.1 % 4 then q.2 else layF tb f0 (es.take i) k := by rw [htk]; exact if_pos he
      rw [← e5] at c5
      have := m1.size; have := m3.size
      exact ⟨⟨o5.upd.new (m3.trans m4) (Nat.le_refl _), (d3.new m4).only o5 (by omega), i + 1, (by first | (rw [wr64 (by omega) (by omega)]; omega) | (simp only [IntKind.wrap_i64]; omega)), hiL, c5⟩, (by dsimp only; first | (rw [wr64 (by omega) (by omega)]; omega) | (rw [wr64 (by omega) (by omega), wr64 (by omega) (by omega)]; omega) | (simp only [IntKind.wrap_i64]; omega))⟩
    · have he : ¬ q.1 / 4 = tb := fun e => by rw [e] at he; simp at he
      have e5 : layF tb f0 (es.take (i + 1)) = layF tb f0 (es.take i) := by rw [htk]; exact if_neg he
      exact ⟨⟨m3.trans m4, d3.new m4, i + 1, (by first | (rw [wr64 (by omega) (by omega)]; omega) | (simp only [IntKind.wrap_i64]; omega)), hiL, by rw [e5]; exact c4⟩, (by dsimp only; first | (rw [wr64 (by omega) (by omega)]; omega) | (rw [wr64 (by omega) (by omega), wr64 (by omega) (by omega)]; omega) | (simp only [IntKind.wrap_i64]; omega))⟩
  · have hlt : ¬ (i : Int) < (es.length : Int) := of_decide_eq_false hlt
    obtain rfl : i = es.length := by omega
    rw [List.take_length] at c3
    refine ldAgg_blk (layF tb f0 es 0, layF tb f0 es 1, layF tb f0 es 2, layF tb f0 es 3) c3 ⟨rfl, rfl, rfl, rfl, trivial⟩ (stL_blk d3 (Nat.le_refl 4) fun h5 b5 o5 => ?_)
    rw [setsA_all (by rfl)] at b5
    refine ldAgg_blk (layF tb f0 es 0, layF tb f0 es 1, layF tb f0 es 2, layF tb f0 es 3) b5 ⟨rfl, rfl, rfl, rfl, trivial⟩ ⟨rfl, o5.upd.new m3 (by have := m1.size; omega)⟩
end Go.Proofs.YthimfpkkdhpceaaDoor.Dir
/-
  DirBack, plain: pages that are put one behind the other; what is laid is told.
-/
namespace Go.Proofs.YthimfpkkdhpceaaDoor.Dir
open Go.Pl Go.Proofs.YthimfpkkdhpceaaDoor.W Go.Proofs.YthimfpkkdhpceaaDoor.Byts Go.Proofs.YthimfpkkdhpceaaDoor.As Go.Proofs.YthimfpkkdhpceaaDoor.Err Go.Proofs.YthimfpkkdhpceaaDoor.Head Go.Proofs.YthimfpkkdhpceaaDoor.HdP Go.Proofs.YthimfpkkdhpceaaDoor.Zns Go.Proofs.YthimfpkkdhpceaaDoor.ZnsP Go.Proofs.YthimfpkkdhpceaaDoor.Geo Go.Proofs.YthimfpkkdhpceaaDoor.Med
/-- Pages that were put, zone by zone. -/
structure Puts (z p : Int) (D : Dev) (zn : Nat) (log : List (Hd × List Int)) : Prop where
  gok : GOk z p D
  up : D.down = false
  fuse : D.fuse = -1
  fin : ∀ m : Int, (D.at_ m).fin = false
  len : (log.length : Int) = zn * p + D.point (zn : Int)
  rest : ∀ m : Nat, zn < m → D.point (m : Int) = 0
  got : ∀ (i : Nat) (q : Hd × List Int), log[i]? = some q → getM z p D ((i : Int) + 1) = (q.1, q.2, 0)
theorem empty_at (n p : Nat) (z : Int) : ((Dev.empty n p).at_ z).pages = [] ∧ ((Dev.empty n p).at_ z).fin = false := by
  cases h : (Dev.empty n p).there z with
  | false => rw [at_none h]; exact ⟨rfl, rfl⟩
  | true =>
    obtain ⟨y, rfl, hy⟩ := there_nat h
    rw [at_of hy]
    simp [Dev.empty, Zn.bare]
theorem Puts.start {z p : Nat} (hz : 11 ≤ z ∧ z ≤ 24) (hp : 4 ≤ p ∧ p ≤ 16) : Puts (z : Int) (p : Int) (Dev.empty z p) 0 [] :=
  ⟨⟨by omega, by omega, by simp [Dev.empty], rfl, DevOk.empty (by omega) (by omega)⟩, rfl, rfl, fun m => (empty_at z p m).2, by unfold Dev.point; rw [(empty_at z p _).1]; simp, fun m _ => by unfold Dev.point; rw [(empty_at z p _).1]; rfl, fun i q h => by simp at h⟩
def nextZ (D : Dev) (zn : Nat) : Nat := if D.point (zn : Int) = D.P then zn + 1 else zn
theorem Puts.put {z p : Int} {D : Dev} {zn : Nat} {log : List (Hd × List Int)} (P : Puts z p D zn log) (hr : (log.length : Int) < (z - 2) * p) {x : Hd} (hx : HdOk x) (hxr : isR x = true) {bs : List Int} (hl : bs.length = 16) (hb : Byt bs) :
    ∃ D', putM z p D (nextZ D zn : Int) x bs = (D', (log.length : Int) + 1, 0) ∧ Puts z p D' (nextZ D zn) (log ++ [(x, bs)]) := by
  have hp := P.gok.pr
  have hP := P.gok.P
  have hpt := P.gok.pt (zn : Int)
  obtain ⟨n, hn, hnl, hnp, hnr⟩ : ∃ n, nextZ D zn = n ∧ (log.length : Int) = n * p + D.point (n : Int) ∧ (D.point (n : Int) : Int) < p ∧ ∀ m : Nat, n < m → D.point (m : Int) = 0 := by
    unfold nextZ
    by_cases e : D.point (zn : Int) = D.P
    · rw [if_pos e]
      have h0 : D.point ((zn + 1 : Nat) : Int) = 0 := P.rest _ (by omega)
      refine ⟨zn + 1, rfl, ?_, by rw [h0]; omega, fun m hm => P.rest m (by omega)⟩
      rw [h0, P.len, e, hP, show ((zn + 1 : Nat) : Int) = (zn : Int) + 1 by omega, Int.add_mul]; omega
    · rw [if_neg e]
      exact ⟨zn, rfl, P.len, by omega, P.rest⟩
  rw [hn]
  have hn2 : (n : Int) < z - 2 := by
    refine Int.lt_of_not_ge fun hc => ?_
    have := Int.mul_le_mul_of_nonneg_right hc (show 0 ≤ p by omega)
    omega
  have hth : D.there (n : Int) = true := by have := P.gok.zs; unfold Dev.there; simp; omega
  obtain ⟨oa, at1⟩ := of_at (z := z) hp (zone := (n : Int)) (page := (D.point (n : Int) : Int)) ⟨by omega, by omega, by omega⟩
  obtain ⟨oa0, _⟩ := of_at (z := z) hp (zone := (n : Int)) (page := 0) ⟨by omega, by omega, by omega⟩
  have h0p : 0 ≤ (n : Int) * p := Int.mul_nonneg (by omega) (by omega)
  have hby : bytesF x bs = (pageL x bs, 0) := by
    rcases bytesF_cases x bs with ⟨_, _, _, e⟩ | ⟨_, _, h3⟩
    · exact e
    · exact (h3 ⟨hxr, hl⟩).elim
  have happ : D.append (n : Int) (pageL x bs) = (({ D with fuse := max (D.fuse - 1) (-1), ops := IntKind.wrap .i64 (D.ops + 1) } : Dev).setZ (n : Int) { D.at_ (n : Int) with pages := (D.at_ (n : Int)).pages ++ [pageL x bs] }, (D.point (n : Int) : Int), 0) := by
    have hE : D.appendE (n : Int) (pageL x bs) = 0 := by
      unfold Dev.appendE
      rw [if_neg (by rw [hth, pageL_len x hl]; simp), if_neg]
      unfold Dev.state
      have hpl : ((D.at_ (n : Int)).pages.length : Int) < p := hnp
      split
      · omega
      · rw [if_neg (by rw [P.fin]; intro e; rcases e with e | e; · cases e
                       · omega)]
        omega
    have hD : D.doing (D.appendE (n : Int) (pageL x bs)) = ({ D with fuse := max (D.fuse - 1) (-1), ops := IntKind.wrap .i64 (D.ops + 1) }, 0) := by
      unfold Dev.doing
      rw [hE, if_neg (by rw [P.up]; simp), if_neg (by simp), if_neg (by rw [P.fuse]; decide)]
    unfold Dev.append
    rw [hD]
    rfl
  have hput : putM z p D (n : Int) x bs = ((D.append (n : Int) (pageL x bs)).1, (log.length : Int) + 1, 0) := by
    unfold putM
    rw [if_neg (by omega), hby, if_neg (by simp), if_neg (by rw [happ]; simp), happ, oa, hnl]
  have h2 : (putM z p D (n : Int) x bs).2.2 = 0 := by rw [hput]
  obtain ⟨gE, g0, g1, _, g3⟩ := put_yes P.gok hx hb h2
  obtain ⟨_, _, _, _, _, f6, _, _, f9⟩ := app_facts P.gok.ok.pages.1 (show (D.append (n : Int) (pageL x bs)).2.2 = 0 by rw [happ])
  have hfu : (D.append (n : Int) (pageL x bs)).1.fuse = -1 := by
    rw [happ]
    show max (D.fuse - 1) (-1) = -1
    rw [P.fuse]; decide
  refine ⟨_, hput, ?_⟩
  rw [hput] at gE g1 g3
  simp only [] at gE g1 g3
  generalize (D.append (n : Int) (pageL x bs)).1 = E at *
  refine ⟨gE, f6, hfu, fun m => ?_, ?_, fun m hm => ?_, fun i q hq => ?_⟩
  · rw [f9]
    by_cases e : m = (n : Int)
    · rw [if_pos e]; exact P.fin _
    · rw [if_neg e]; exact P.fin _
  · unfold Dev.point
    rw [f9, if_pos rfl]
    have : (D.point (n : Int)) = (D.at_ (n : Int)).pages.length := rfl
    simp only [List.length_append, List.length_singleton]
    omega
  · unfold Dev.point
    rw [f9, if_neg (by omega)]
    exact hnr m hm
  · by_cases e : i < log.length
    · rw [List.getElem?_append_left e] at hq
      rw [g3 _ (by omega) (by omega)]
      exact P.got i q hq
    · have hi : i = log.length := by
        have := (List.getElem?_eq_some_iff.1 hq).1
        simp at this; omega
      subst hi
      rw [List.getElem?_append_right (Nat.le_refl _)] at hq
      simp at hq
      rw [← hq]
      exact g1
/- HOW MANY PAGES THERE ARE. -/
theorem boundFrom_ok (z p : Int) : ∀ n, 0 < boundFrom z p n → okB z p (boundFrom z p n) = true
  | 0, h => by simp [boundFrom] at h
  | n + 1, h => by
    unfold boundFrom at h ⊢
    by_cases e : okB z p ((n + 1 : Nat) : Int) = true
    · rw [if_pos e]; exact e
    · rw [if_neg e] at h ⊢; exact boundFrom_ok z p n h
theorem room {z p g : Int} (h : rightB z p g = true) : g + (g + 3) / 4 < (z - 2) * p := by
  have hf := right_facts h
  unfold rightB at h
  rw [Bool.and_eq_true, decide_eq_true_iff, decide_eq_true_iff] at h
  have hb : boundF z p = boundFrom z p 64 := by unfold boundF; rw [if_pos ⟨hf.1, hf.2.1⟩]
  rw [hb] at h
  have ho := boundFrom_ok z p 64 (by omega)
  unfold okB at ho
  rw [Bool.and_eq_true, decide_eq_true_iff, decide_eq_true_iff] at ho
  have h1 : (z - 2) * p = (z - 7) * p + 5 * p := by rw [← Int.add_mul]; congr 1; omega
  have h2 : 0 ≤ (z - 7) * p := Int.mul_nonneg (by omega) (by omega)
  rw [h1]
  generalize (z - 7) * p = R at *
  omega
end Go.Proofs.YthimfpkkdhpceaaDoor.Dir
/-
  DirBack, plain: what is laid is told, and sound; two that are told at one address are not.
-/
namespace Go.Proofs.YthimfpkkdhpceaaDoor.Dir
open Go.Pl Go.Proofs.YthimfpkkdhpceaaDoor.W Go.Proofs.YthimfpkkdhpceaaDoor.Byts Go.Proofs.YthimfpkkdhpceaaDoor.As Go.Proofs.YthimfpkkdhpceaaDoor.Err Go.Proofs.YthimfpkkdhpceaaDoor.Head Go.Proofs.YthimfpkkdhpceaaDoor.HdP Go.Proofs.YthimfpkkdhpceaaDoor.Zns Go.Proofs.YthimfpkkdhpceaaDoor.ZnsP Go.Proofs.YthimfpkkdhpceaaDoor.Geo Go.Proofs.YthimfpkkdhpceaaDoor.Med
def zeros16 : List Int := List.replicate 16 0
theorem zeros16_byt : Byt zeros16 := fun x hx => by rw [List.eq_of_mem_replicate hx]; decide
def ents (av : List Int) (n : Nat) : List (Nat × Int) := (List.range n).map fun i => (i, av.getD i 0)
theorem ents_succ (av : List Int) (n : Nat) : ents av (n + 1) = ents av n ++ [(n, av.getD n 0)] := by unfold ents; rw [List.range_succ, List.map_append]; rfl
theorem layF_ents (av : List Int) (j k : Nat) (hk : k < 4) : ∀ n, layF j (fun _ => 0) (ents av n) k = if 4 * j + k < n then av.getD (4 * j + k) 0 else 0
  | 0 => by rw [if_neg (by omega)]; rfl
  | n + 1 => by
    rw [ents_succ]
    unfold layF
    rw [List.foldl_append]
    show layS j (layF j (fun _ => 0) (ents av n)) (n, av.getD n 0) k = _
    unfold layS
    simp only []
    by_cases e : n / 4 = j
    · rw [if_pos e]
      by_cases e2 : k = n % 4
      · rw [if_pos e2, if_pos (by omega), show 4 * j + k = n by omega]
      · rw [if_neg e2, layF_ents av j k hk n]
        by_cases e3 : 4 * j + k < n
        · rw [if_pos e3, if_pos (by omega)]
        · rw [if_neg e3, if_neg (by omega)]
    · rw [if_neg e, layF_ents av j k hk n]
      by_cases e3 : 4 * j + k < n
      · rw [if_pos e3, if_pos (by omega)]
      · rw [if_neg e3, if_neg (by omega)]
def layP (av : List Int) (j : Nat) : Body.Pls := (layF j (fun _ => 0) (ents av av.length) 0, layF j (fun _ => 0) (ents av av.length) 1, layF j (fun _ => 0) (ents av av.length) 2, layF j (fun _ => 0) (ents av av.length) 3)
theorem layF_all (av : List Int) (j k : Nat) (hk : k < 4) : layF j (fun _ => 0) (ents av av.length) k = av.getD (4 * j + k) 0 := by
  rw [layF_ents av j k hk]
  split
  · rfl
  · rw [List.getD_eq_getElem?_getD, List.getElem?_eq_none (by omega)]; rfl
structure AllI (g i : Nat) (log : List (Hd × List Int)) (av : List Int) : Prop where
  len : av.length = g
  at_ : ∀ (j : Nat) (a : Int), av[j]? = some a → a = 0 ∨ (j < i ∧ ∃ m : Nat, a = (m : Int) + 1 ∧ ∃ kd : Int, (kd = 1 ∨ kd = 4) ∧ log[m]? = some ((kd, 0, (j : Int), 0), zeros16))
structure DirI (n t : Nat) (av : List Int) (log : List (Hd × List Int)) (pl : List Int) : Prop where
  len : pl.length = n
  at_ : ∀ (j : Nat) (a : Int), pl[j]? = some a → (t ≤ j ∧ a = 0) ∨ (j < t ∧ ∃ m : Nat, a = (m : Int) + 1 ∧ log[m]? = some ((3, 0, (j : Int), 0), Body.plsB (layP av j)))
theorem more {α : Type} {l : List α} {m : Nat} {x y : α} (h : l[m]? = some x) : (l ++ [y])[m]? = some x := by
  rw [List.getElem?_append_left (List.getElem?_eq_some_iff.1 h).1]; exact h
theorem AllI.more {g i : Nat} {log : List (Hd × List Int)} {av : List Int} (A : AllI g i log av) (y : Hd × List Int) : AllI g i (log ++ [y]) av :=
  ⟨A.len, fun j a h => (A.at_ j a h).imp id fun ⟨h1, m, h2, kd, h3, h4⟩ => ⟨h1, m, h2, kd, h3, Dir.more h4⟩⟩
theorem AllI.skip {g i : Nat} {log : List (Hd × List Int)} {av : List Int} (A : AllI g i log av) : AllI g (i + 1) log av :=
  ⟨A.len, fun j a h => (A.at_ j a h).imp id fun ⟨h1, h2⟩ => ⟨by omega, h2⟩⟩
theorem AllI.start (g : Nat) (log : List (Hd × List Int)) : AllI g 0 log (List.replicate g 0) :=
  ⟨by simp, fun j a h => .inl (List.eq_of_mem_replicate (List.mem_of_getElem? h))⟩
theorem AllI.put {g i : Nat} {log : List (Hd × List Int)} {av : List Int} (A : AllI g i log av) (kd : Int) (hk : kd = 1 ∨ kd = 4) : AllI g (i + 1) (log ++ [((kd, 0, (i : Int), 0), zeros16)]) (av.set i ((log.length : Int) + 1)) := by
  refine ⟨by rw [List.length_set]; exact A.len, fun j a h => ?_⟩
  rw [List.getElem?_set] at h
  by_cases e : i = j
  · rw [if_pos e] at h
    split at h
    · injection h with h
      refine .inr ⟨by omega, log.length, h.symm, kd, hk, ?_⟩
      rw [List.getElem?_append_right (Nat.le_refl _), e]; simp
    · cases h
  · rw [if_neg e] at h
    exact ((A.more _).skip).at_ j a h
theorem DirI.start (n : Nat) (av : List Int) (log : List (Hd × List Int)) : DirI n 0 av log (List.replicate n 0) :=
  ⟨by simp, fun j a h => .inl ⟨Nat.zero_le _, List.eq_of_mem_replicate (List.mem_of_getElem? h)⟩⟩
theorem DirI.put {n t : Nat} {log : List (Hd × List Int)} {av pl : List Int} (A : DirI n t av log pl) : DirI n (t + 1) av (log ++ [((3, 0, (t : Int), 0), Body.plsB (layP av t))]) (pl.set t ((log.length : Int) + 1)) := by
  refine ⟨by rw [List.length_set]; exact A.len, fun j a h => ?_⟩
  rw [List.getElem?_set] at h
  by_cases e : t = j
  · rw [if_pos e] at h
    split at h
    · injection h with h
      refine .inr ⟨by omega, log.length, h.symm, ?_⟩
      rw [List.getElem?_append_right (Nat.le_refl _), e]; simp
    · cases h
  · rw [if_neg e] at h
    rcases A.at_ j a h with ⟨h1, h2⟩ | ⟨h1, m, h2, h3⟩
    · exact .inl ⟨by omega, h2⟩
    · exact .inr ⟨by omega, m, h2, Dir.more h3⟩
section
variable {z p : Int} {D : Dev} {ks : List Int}
theorem look_good : ∀ (l : List Int) (i : Nat) (seen : List Int), (lookM z p D ks seen i l).1 = true → ∀ (j : Nat) (a : Int), l[j]? = some a → a ≠ 0 → goodP z p D a ((i + j : Nat) : Int) ks = true
  | [], _, _, _, j, a, h, _ => by simp at h
  | x :: r, i, seen, hl, j, a, h, ha => by
    unfold lookM at hl
    cases j with
    | zero =>
      have hx : x = a := by simpa using h
      subst hx
      rw [if_neg ha] at hl
      split at hl
      · cases hl
      · split at hl
        · assumption
        · cases hl
    | succ j =>
      have h : r[j]? = some a := by simpa using h
      have e : i + (j + 1) = i + 1 + j := by omega
      rw [e]
      split at hl
      · exact look_good r (i + 1) seen hl j a h ha
      · split at hl
        · cases hl
        · split at hl
          · exact look_good r (i + 1) _ hl j a h ha
          · cases hl
theorem look_true : ∀ (l : List Int) (i : Nat) (seen : List Int), (∀ (j : Nat) (a : Int), l[j]? = some a → a ≠ 0 → goodP z p D a ((i + j : Nat) : Int) ks = true ∧ a ∉ seen ∧ ∀ j' < j, l[j']? ≠ some a) → (lookM z p D ks seen i l).1 = true ∧ ∀ x ∈ (lookM z p D ks seen i l).2, x ∈ seen ∨ (x ∈ l ∧ x ≠ 0)
  | [], _, _, _ => ⟨rfl, fun x hx => .inl hx⟩
  | y :: r, i, seen, h => by
    have e : ∀ j, i + (j + 1) = i + 1 + j := fun j => by omega
    unfold lookM
    by_cases hy : y = 0
    · rw [if_pos hy]
      obtain ⟨q1, q2⟩ := look_true r (i + 1) seen fun j a ha hz => by
        obtain ⟨h1, h2, h3⟩ := h (j + 1) a (by simpa using ha) hz
        rw [e] at h1
        exact ⟨h1, h2, fun j' hj' hc => h3 (j' + 1) (by omega) (by simpa using hc)⟩
      exact ⟨q1, fun x hx => (q2 x hx).imp id fun ⟨k1, k2⟩ => ⟨.tail _ k1, k2⟩⟩
    · obtain ⟨g1, g2, _⟩ := h 0 y rfl hy
      rw [if_neg hy, if_neg g2, if_pos (by simpa using g1)]
      obtain ⟨q1, q2⟩ := look_true r (i + 1) (seen ++ [y]) fun j a ha hz => by
        obtain ⟨h1, h2, h3⟩ := h (j + 1) a (by simpa using ha) hz
        rw [e] at h1
        refine ⟨h1, fun hm => ?_, fun j' hj' hc => h3 (j' + 1) (by omega) (by simpa using hc)⟩
        rw [List.mem_append, List.mem_singleton] at hm
        rcases hm with hm | hm
        · exact h2 hm
        · exact h3 0 (by omega) (by rw [hm]; rfl)
      refine ⟨q1, fun x hx => ?_⟩
      rcases q2 x hx with k | ⟨k1, k2⟩
      · rw [List.mem_append, List.mem_singleton] at k
        rcases k with k | k
        · exact .inl k
        · exact .inr ⟨by rw [k]; exact .head _, by rw [k]; exact hy⟩
      · exact .inr ⟨.tail _ k1, k2⟩
variable {zn : Nat} {log : List (Hd × List Int)}
theorem Puts.good (P : Puts z p D zn log) {m : Nat} {kd : Int} {j : Nat} {bs : List Int} (h : log[m]? = some ((kd, 0, (j : Int), 0), bs)) (id : Nat) (hi : id < 1000) (hk : kd ∈ ks) : goodP z p D ((m : Int) + 1) (id : Int) ks = true ↔ j = id := by
  have hg := P.got m _ h
  rw [goodP_iff, hg]
  simp only []
  constructor
  · rintro ⟨_, h2, _⟩; omega
  · intro e; exact ⟨trivial, by omega, hk⟩
theorem sound_yes (P : Puts z p D zn log) {g n : Nat} {av pl : List Int} (hg : g < 1000) (hn : n < 1000) (A : AllI g g log av) (B : DirI n n av log pl) : soundM z p D pl av = true := by
  obtain ⟨q1, q2⟩ := look_true (z := z) (p := p) (D := D) (ks := [3]) pl 0 [] fun j a ha hz => by
    rcases B.at_ j a ha with ⟨_, h2⟩ | ⟨h1, m, h2, h3⟩
    · exact (hz h2).elim
    · rw [Nat.zero_add]
      refine ⟨by rw [h2]; exact (P.good h3 j (by omega) (by simp)).2 rfl, by simp, fun j' hj' hc => ?_⟩
      rcases B.at_ j' a hc with ⟨_, k2⟩ | ⟨k1, m', k2, k3⟩
      · exact hz k2
      · have : m' = m := by omega
        subst this
        rw [h3] at k3
        injection k3 with k3
        have := congrArg (fun (q : Hd × List Int) => q.1.2.2.1) k3
        simp only [] at this
        omega
  unfold soundM
  rw [q1, Bool.true_and]
  refine (look_true (z := z) (p := p) (D := D) (ks := [1, 4]) av 0 _ fun j a ha hz => ?_).1
  rcases A.at_ j a ha with h2 | ⟨h1, m, h2, kd, hk, h3⟩
  · exact (hz h2).elim
  · rw [Nat.zero_add]
    refine ⟨by rw [h2]; exact (P.good h3 j (by omega) (by rcases hk with rfl | rfl <;> simp)).2 rfl, fun hm => ?_, fun j' hj' hc => ?_⟩
    · rcases q2 a hm with k | ⟨k, _⟩
      · cases k
      · obtain ⟨j', hj'⟩ := List.mem_iff_getElem?.1 k
        rcases B.at_ j' a hj' with ⟨_, k2⟩ | ⟨k1, m', k2, k3⟩
        · exact hz k2
        · have : m' = m := by omega
          subst this
          rw [h3] at k3
          injection k3 with k3
          have := congrArg (fun (q : Hd × List Int) => q.1.1) k3
          simp only [] at this
          rcases hk with rfl | rfl <;> cases this
    · rcases A.at_ j' a hc with k2 | ⟨k1, m', k2, kd', hk', k3⟩
      · exact hz k2
      · have : m' = m := by omega
        subst this
        rw [h3] at k3
        injection k3 with k3
        have := congrArg (fun (q : Hd × List Int) => q.1.2.2.1) k3
        simp only [] at this
        omega
theorem sound_no (P : Puts z p D zn log) {g : Nat} {av pl : List Int} (hg : g < 1000) (A : AllI g g log av) {tw q : Nat} {a : Int} (ha : av[tw]? = some a) (hz : a ≠ 0) (hq : q < g) (hne : q ≠ tw) : soundM z p D pl (av.set q a) = false := by
  cases hs : soundM z p D pl (av.set q a) with
  | false => rfl
  | true =>
    unfold soundM at hs
    rw [Bool.and_eq_true] at hs
    have hl := A.len
    have h1 := look_good _ _ _ hs.2 q a (by rw [List.getElem?_set, if_pos rfl, if_pos (by omega)]) hz
    rcases A.at_ tw a ha with h2 | ⟨_, m, h2, kd, hk, h3⟩
    · exact (hz h2).elim
    · rw [h2, Nat.zero_add, P.good h3 q (by omega) (by rcases hk with rfl | rfl <;> simp)] at h1
      omega
theorem addr_lt (hL : log.length < 1000) {g : Nat} {av : List Int} (A : AllI g g log av) : ∀ a ∈ av, 0 ≤ a ∧ a < 4294967296 := by
  intro a ha
  obtain ⟨j, hj⟩ := List.mem_iff_getElem?.1 ha
  rcases A.at_ j a hj with h | ⟨_, m, h2, _, _, h3⟩
  · omega
  · have := (List.getElem?_eq_some_iff.1 h3).1; omega
theorem addr_lt2 (hL : log.length < 1000) {n t : Nat} {av pl : List Int} (A : DirI n t av log pl) : ∀ a ∈ pl, 0 ≤ a ∧ a < 4294967296 := by
  intro a ha
  obtain ⟨j, hj⟩ := List.mem_iff_getElem?.1 ha
  rcases A.at_ j a hj with ⟨_, h⟩ | ⟨_, m, h2, h3⟩
  · omega
  · have := (List.getElem?_eq_some_iff.1 h3).1; omega
theorem getD_lt {av : List Int} (h : ∀ a ∈ av, 0 ≤ a ∧ a < 4294967296) (j : Nat) : 0 ≤ av.getD j 0 ∧ av.getD j 0 < 4294967296 := by
  rw [List.getD_eq_getElem?_getD]
  cases e : av[j]? with
  | none => simp
  | some a => exact h a (List.mem_of_getElem? e)
theorem layP_ok {av : List Int} (h : ∀ a ∈ av, 0 ≤ a ∧ a < 4294967296) (j : Nat) : Body.PlsOk (layP av j) := by
  intro k
  unfold layP
  rw [layF_all _ _ _ (by omega), layF_all _ _ _ (by omega), layF_all _ _ _ (by omega), layF_all _ _ _ (by omega)]
  unfold Body.word
  split <;> exact getD_lt h _
theorem places_yes (P : Puts z p D zn log) {n : Nat} {av pl : List Int} (hn : n < 1000) (h : ∀ a ∈ av, 0 ≤ a ∧ a < 4294967296) (B : DirI n n av log pl) (i : Nat) (hi : i < n) : plM z p D pl (i : Int) = (layP av i, 0) := by
  have hl := B.len
  have hiL : i < pl.length := by omega
  have hx : pl.getD (i : Int).toNat 0 = pl[i] := by rw [Int.toNat_natCast, List.getD_eq_getElem?_getD, List.getElem?_eq_getElem hiL]; rfl
  unfold plM
  rw [hx, if_neg (by omega)]
  rcases B.at_ i _ (List.getElem?_eq_getElem hiL) with ⟨h1, _⟩ | ⟨_, m, h2, h3⟩
  · omega
  · rw [h2, if_neg (by omega), if_pos ((P.good h3 i (by omega) (by simp)).2 rfl), P.got m _ h3]
    rw [Body.plsOf_plsB (layP_ok h i)]
theorem flat_yes {pl av : List Int} : ∀ n, (∀ i : Nat, i < n → plM z p D pl (i : Int) = (layP av i, 0)) → flatP z p D pl n = (List.range (4 * n)).map fun q => av.getD q 0
  | 0, _ => rfl
  | n + 1, h => by
    rw [flatP_succ, flat_yes n fun i hi => h i (by omega), h n (by omega)]
    rw [show 4 * (n + 1) = 4 * n + 1 + 1 + 1 + 1 by omega, List.range_succ, List.range_succ, List.range_succ, List.range_succ]
    simp only [List.map_append, List.map_cons, List.map_nil, List.append_assoc, List.cons_append, List.nil_append]
    unfold pl4 layP
    rw [layF_all _ _ _ (by omega), layF_all _ _ _ (by omega), layF_all _ _ _ (by omega), layF_all _ _ _ (by omega)]
    rfl
theorem flat_take {av : List Int} {n g : Nat} (hl : av.length = g) (hg : g ≤ 4 * n) : ((List.range (4 * n)).map fun q => av.getD q 0).take g = av ∧ ∀ x ∈ ((List.range (4 * n)).map fun q => av.getD q 0).drop g, x = 0 := by
  constructor
  · refine List.ext_getElem? fun j => ?_
    rw [List.getElem?_take]
    by_cases hj : j < g
    · rw [if_pos hj, List.getElem?_map, List.getElem?_range (by omega)]
      simp [List.getElem?_eq_getElem (show j < av.length by omega)]
    · rw [if_neg hj, List.getElem?_eq_none (by omega)]
  · intro x hx
    obtain ⟨j, hj⟩ := List.mem_iff_getElem?.1 hx
    rw [List.getElem?_drop, List.getElem?_map] at hj
    have : g + j < 4 * n := by
      refine Classical.not_not.1 fun hc => ?_
      rw [List.getElem?_eq_none (by rw [List.length_range]; omega)] at hj; cases hj
    rw [List.getElem?_range this] at hj
    have hj : av.getD (g + j) 0 = x := by simpa using hj
    rw [← hj, List.getD_eq_getElem?_getD, List.getElem?_eq_none (by omega)]; rfl
end
end Go.Proofs.YthimfpkkdhpceaaDoor.Dir
/-
  The formulas of the law of dir. Each formula checked by the kernel. Printed by a program of this repo.
-/
namespace Go.Proofs.YthimfpkkdhpceaaDoor.W
open Go.Pl

-- function 24
set_option maxRecDepth 100000 in
def F24  (K : Value → Heap → Prop) (h0 : Heap) : Prop := (
  newW (.cells (zeroC Tryd.prog 24) 24) (fun a1 h2 =>
  stLW a1 [.int .i64 11, .int .i64 4, .int .i64 6] (fun h3 =>
  callT Tryd.prog 26 [.int .i64 11, .int .i64 4] [.sc .ptr, .sc .any] (fun (r4 : (Option Addr) × Value) h5 =>
  br (Option.isNone r4.1)
  (K (.bool false) h5)
  (ldAggW [.int .i64, .int .i64, .int .i64] a1 (fun (x6 : Int × Int × Int) =>
  callT Tryd.prog 31 [.agg #[.int .u32 2, .int .u32 0, .int .u32 0, .int .u32 0]] [.sc .slice] (fun (r7 : (Option Addr × Nat × Nat)) h8 =>
  (cellH h8 (Addr.add a1 0) = some (.int .i64 x6.1) ∧ (cellH h8 (Addr.add a1 1) = some (.int .i64 x6.2.1) ∧ (cellH h8 (Addr.add a1 2) = some (.int .i64 x6.2.2) ∧ callT Tryd.prog 29 [.pointer r4.1, .agg #[.int .i64 x6.1, .int .i64 x6.2.1, .int .i64 x6.2.2], .int .i64 0, .agg #[.int .u8 3, .int .u32 0, .int .u32 1, .int .u32 0], .slice r7.1 r7.2.1 r7.2.2] [.sc (.int .u32), .sc .any] (fun (r9 : Int × Value) h10 =>
  ldAggW [.int .i64, .int .i64, .int .i64] a1 (fun (x11 : Int × Int × Int) =>
  mkW Tryd.prog 5 (16 : Int) (16 : Int) (fun b12 n13 c14 h15 =>
  callT Tryd.prog 29 [.pointer r4.1, .agg #[.int .i64 x11.1, .int .i64 x11.2.1, .int .i64 x11.2.2], .int .i64 0, .agg #[.int .u8 1, .int .u32 0, .int .u32 4, .int .u32 0], .slice b12 n13 c14] [.sc (.int .u32), .sc .any] (fun (r16 : Int × Value) h17 =>
  newW (.cells #[.int .u32 0, .int .u32 r9.1] 22) (fun a18 h19 =>
  ldAggW [.int .i64, .int .i64, .int .i64] a1 (fun (x20 : Int × Int × Int) =>
  callT Tryd.prog 63 [.pointer r4.1, .agg #[.int .i64 x20.1, .int .i64 x20.2.1, .int .i64 x20.2.2], .slice (some a18) 2 2, .int .i64 1] [.agg [.int .u32, .int .u32, .int .u32, .int .u32], .sc .any] (fun (r21 : (Int × Int × Int × Int) × Value) h22 =>
  newW (.cells (zeroC Tryd.prog 72) 72) (fun a23 h24 =>
  stLW a23 [.int .u32 r21.1.1, .int .u32 r21.1.2.1, .int .u32 r21.1.2.2.1, .int .u32 r21.1.2.2.2] (fun h25 =>
  ldAggW [.int .i64, .int .i64, .int .i64] a1 (fun (x26 : Int × Int × Int) =>
  callT Tryd.prog 34 [.pointer r4.1, .agg #[.int .i64 x26.1, .int .i64 x26.2.1, .int .i64 x26.2.2], .slice (some a18) 2 2] [.sc .slice, .sc .any] (fun (r27 : (Option Addr × Nat × Nat) × Value) h28 =>
  ldAggW [.int .i64, .int .i64, .int .i64] a1 (fun (x29 : Int × Int × Int) =>
  newW (.cells #[.int .u32 r9.1, .int .u32 0] 22) (fun a30 h31 =>
  callT Tryd.prog 63 [.pointer r4.1, .agg #[.int .i64 x29.1, .int .i64 x29.2.1, .int .i64 x29.2.2], .slice (some a30) 2 2, .int .i64 0] [.agg [.int .u32, .int .u32, .int .u32, .int .u32], .sc .any] (fun (r32 : (Int × Int × Int × Int) × Value) h33 =>
  newW (.cells (zeroC Tryd.prog 72) 72) (fun a34 h35 =>
  stLW a34 [.int .u32 r32.1.1, .int .u32 r32.1.2.1, .int .u32 r32.1.2.2.1, .int .u32 r32.1.2.2.2] (fun h36 =>
  br (r9.1 == (1 : Int))
  (br (r16.1 == (2 : Int))
  (ldAggW [.int .u32, .int .u32, .int .u32, .int .u32] a23 (fun (x37 : Int × Int × Int × Int) =>
  eqGen Tryd.prog 72 (.agg #[.int .u32 x37.1, .int .u32 x37.2.1, .int .u32 x37.2.2.1, .int .u32 x37.2.2.2]) (.agg #[.int .u32 2, .int .u32 0, .int .u32 0, .int .u32 0]) (fun b38 =>
  br b38
  (ifW r21.2 (br (isNilV r21.2)
  (ifW r27.2 (br (isNilV r27.2)
  (newW (.cells #[.int .u32 0, .int .u32 0, .int .u32 0, .int .u32 0, .int .u32 2, .int .u32 0] 22) (fun a39 h40 =>
  callT Tryd.prog 35 [.slice r27.1.1 r27.1.2.1 r27.1.2.2, .slice (some a39) 6 6] [.sc .bool] (fun (r41 : Bool) h42 =>
  br r41
  (ldAggW [.int .i64, .int .i64, .int .i64] a1 (fun (x43 : Int × Int × Int) =>
  callT Tryd.prog 36 [.pointer r4.1, .agg #[.int .i64 x43.1, .int .i64 x43.2.1, .int .i64 x43.2.2], .slice (some a18) 2 2, .slice r27.1.1 r27.1.2.1 r27.1.2.2] [.sc .any] (fun (r44 : Value) h45 =>
  ifW r44 (br (isNilV r44)
  (callT Tryd.prog 19 [r32.2] [.sc (.int .i64)] (fun (r46 : Int) h47 =>
  br (r46 == (10 : Int))
  (ldAggW [.int .u32, .int .u32, .int .u32, .int .u32] a23 (fun (x48 : Int × Int × Int × Int) =>
  newW (.cells #[.int .i64 5, .int .u32 7, .bool false] 69) (fun a49 h50 =>
  callT Tryd.prog 32 [.agg #[.int .u32 x48.1, .int .u32 x48.2.1, .int .u32 x48.2.2.1, .int .u32 x48.2.2.2], .int .i64 1, .slice (some a49) 1 1] [.agg [.int .u32, .int .u32, .int .u32, .int .u32]] (fun (r51 : (Int × Int × Int × Int)) h52 =>
  eqGen Tryd.prog 72 (.agg #[.int .u32 r51.1, .int .u32 r51.2.1, .int .u32 r51.2.2.1, .int .u32 r51.2.2.2]) (.agg #[.int .u32 2, .int .u32 7, .int .u32 0, .int .u32 0]) (fun b53 =>
  K (.bool b53) h52)) h50) h47) h47)
  (K (.bool false) h47)) h45)
  (K (.bool false) h45))) h42) h42)
  (K (.bool false) h42)) h40) h36)
  (K (.bool false) h36)))
  (K (.bool false) h36)))
  (K (.bool false) h36))) h36)
  (K (.bool false) h36))
  (K (.bool false) h36)) h35) h33) h31) h28) h28) h25) h25) h24) h22) h19) h19) h17) h15) h10) h10) h8)))) h5) h5)) h3) h2) h0)
set_option maxRecDepth 100000 in
theorem F24_eq  (K : Value → Heap → Prop) (h0 : Heap) : funWE Tryd.prog 24 (.seq (.leaf) (.seq (.leaf) (.seq (.leaf) (.seq (.seq (.leaf) (.cond (.seq (.leaf) (.leaf)) (.leaf))) (.seq (.draw (odp [0, 1, 2, 3, 4, 5, 6, 7, 8, 9, 10] .nil) [200001]) (.seq (.draw (odp [0, 1, 2, 3, 4, 5, 6, 7, 8, 9] .nil) []) (.seq (.leaf) (.seq (.leaf) (.seq (.leaf) (.seq (.leaf) (.seq (.leaf) (.leaf)))))))))))) [] K h0 = F24  K h0 := by kernel_rfl

-- function 7
set_option maxRecDepth 100000 in
def F7 (g_0_0 : Int) (g_0_1 : Int) (g_0_2 : Int) (there_1 : Option Addr) (there_1l _there_1c : Nat) (moved_2 : Option Addr) (moved_2l _moved_2c : Nat) (twice_3 : Int) (K : Value → Heap → Prop) (h0 : Heap) : Prop := (
  newW (.cells #[.int .i64 g_0_0, .int .i64 g_0_1, .int .i64 g_0_2] 24) (fun a1 h2 =>
  callT Tryd.prog 24 [] [.sc .bool] (fun (r3 : Bool) h4 =>
  br (!r3)
  (K (.bool false) h4)
  (cutT [] (fun (K5 : Unit → Heap → Prop) h10 =>
  ldAggW [.int .i64, .int .i64, .int .i64] a1 (fun (x6 : Int × Int × Int) =>
  callT Tryd.prog 25 [.agg #[.int .i64 x6.1, .int .i64 x6.2.1, .int .i64 x6.2.2]] [.sc .bool] (fun (r7 : Bool) h8 =>
  br (!r7)
  (K (.bool true) h8)
  (ldW (.int .i64) (Addr.add a1 2) (fun (x9 : Int) =>
  br (decide (x9 > (64 : Int)))
  (K (.bool true) h8)
  (br (decide ((((there_1l : Nat) : Int)) > (100 : Int)))
  (K (.bool true) h8)
  (br (decide ((((moved_2l : Nat) : Int)) > (100 : Int)))
  (K (.bool true) h8)
  (K5 () h8)))) h8)) h10) h10) (fun (_s11 : Unit) _ h12 =>
  ldW (.int .i64) (Addr.add a1 0) (fun (x13 : Int) =>
  ldW (.int .i64) (Addr.add a1 1) (fun (x14 : Int) =>
  callT Tryd.prog 26 [.int .i64 x13, .int .i64 x14] [.sc .ptr, .sc .any] (fun (r15 : (Option Addr) × Value) h16 =>
  newW (.cells (zeroC Tryd.prog 59) 59) (fun a17 h18 =>
  stW a17 (.pointer r15.1) (fun h19 =>
  ldW .ptr a17 (fun (x20 : Option Addr) =>
  br (Option.isNone x20)
  (K (.bool false) h19)
  (newW (.cells (zeroC Tryd.prog 3) 3) (fun a21 h22 =>
  stW a21 (.int .i64 0) (fun h23 =>
  ldW (.int .i64) (Addr.add a1 2) (fun (x24 : Int) =>
  mkW Tryd.prog 22 x24 x24 (fun b25 n26 c27 h28 =>
  loopT [.sc (.int .i64)] (fun (s30 : Int) _ (K29 : Int → Heap → Prop) h31 =>
  br (decide (s30 < (((n26 : Nat) : Int))))
  (cutT [.sc .bool] (fun (K32 : Bool → Heap → Prop) h35 =>
  br (decide (s30 < (((there_1l : Nat) : Int))))
  (ptrW there_1 (fun a33 =>
  idxW s30 there_1l true (ldW .bool (Addr.add a33 (Int.toNat s30 * 1)) (fun (x34 : Bool) =>
  K32 x34 h35) h35)))
  (K32 false h35)) (fun (s36 : Bool) _ h37 =>
  br s36
  (cutT [.sc (.int .u8)] (fun (K38 : Int → Heap → Prop) h41 =>
  br (decide (s30 < (((moved_2l : Nat) : Int))))
  (ptrW moved_2 (fun a39 =>
  idxW s30 moved_2l true (ldW .bool (Addr.add a39 (Int.toNat s30 * 1)) (fun (x40 : Bool) =>
  br x40
  (K38 (4 : Int) h41)
  (K38 (1 : Int) h41)) h41)))
  (K38 (1 : Int) h41)) (fun (s42 : Int) _ h43 =>
  mkW Tryd.prog 5 (16 : Int) (16 : Int) (fun b44 n45 c46 h47 =>
  callW Tryd.prog (.sc (.int .u32)) (.func (.func 27) #[] #[.pointer (some a17), .pointer (some a21), .pointer (some a1)]) [.int .u8 s42, .int .i64 s30, .slice b44 n45 c46] (fun (x48 : Int) h49 =>
  ptrW b25 (fun a50 =>
  idxW s30 n26 true (stW (Addr.add a50 (Int.toNat s30 * 1)) (.int .u32 x48) (fun h51 =>
  K29 (IntKind.wrap .i64 (s30 + (1 : Int))) h51) h49))) h47) h43) h37)
  (K29 (IntKind.wrap .i64 (s30 + (1 : Int))) h37)) h31)
  (ldW (.int .i64) (Addr.add a1 2) (fun (x52 : Int) =>
  callT Tryd.prog 30 [.int .i64 x52] [.sc (.int .i64)] (fun (r53 : Int) h54 =>
  mkW Tryd.prog 22 r53 r53 (fun b55 n56 c57 h58 =>
  loopT [.sc (.int .i64)] (fun (s60 : Int) _ (K59 : Int → Heap → Prop) h61 =>
  br (decide (s60 < (((n56 : Nat) : Int))))
  (loopT [.sc .slice, .sc (.int .i64)] (fun (s63 : (Option Addr × Nat × Nat) × Int) _ (K62 : ((Option Addr × Nat × Nat) × Int) → Heap → Prop) h64 =>
  br (decide (s63.2 < (((n26 : Nat) : Int))))
  (ptrW b25 (fun a65 =>
  idxW s63.2 n26 true (ldW (.int .u32) (Addr.add a65 (Int.toNat s63.2 * 1)) (fun (x66 : Int) =>
  newW (.cells #[.int .i64 s63.2, .int .u32 x66, .bool false] 69) (fun a67 h68 =>
  apW Tryd.prog #[67, 67] #[.slice s63.1.1 s63.1.2.1 s63.1.2.2, .slice (some a67) 1 1] (fun b69 n70 c71 h72 =>
  K62 ((b69, n70, c71), (IntKind.wrap .i64 (s63.2 + (1 : Int)))) h72) h68) h64) h64)))
  (callT Tryd.prog 32 [.agg #[.int .u32 0, .int .u32 0, .int .u32 0, .int .u32 0], .int .i64 s60, .slice s63.1.1 s63.1.2.1 s63.1.2.2] [.agg [.int .u32, .int .u32, .int .u32, .int .u32]] (fun (r73 : (Int × Int × Int × Int)) h74 =>
  callT Tryd.prog 31 [.agg #[.int .u32 r73.1, .int .u32 r73.2.1, .int .u32 r73.2.2.1, .int .u32 r73.2.2.2]] [.sc .slice] (fun (r75 : (Option Addr × Nat × Nat)) h76 =>
  callW Tryd.prog (.sc (.int .u32)) (.func (.func 27) #[] #[.pointer (some a17), .pointer (some a21), .pointer (some a1)]) [.int .u8 3, .int .i64 s60, .slice r75.1 r75.2.1 r75.2.2] (fun (x77 : Int) h78 =>
  ptrW b55 (fun a79 =>
  idxW s60 n56 true (stW (Addr.add a79 (Int.toNat s60 * 1)) (.int .u32 x77) (fun h80 =>
  K59 (IntKind.wrap .i64 (s60 + (1 : Int))) h80) h78))) h76) h74) h64)) ((none, 0, 0), (0 : Int)) h61)
  (ldW .ptr a17 (fun (x81 : Option Addr) =>
  callT Tryd.prog 33 [.pointer x81] [.sc (.int .i64)] (fun (r82 : Int) h83 =>
  ldW .ptr a17 (fun (x84 : Option Addr) =>
  ldAggW [.int .i64, .int .i64, .int .i64] a1 (fun (x85 : Int × Int × Int) =>
  callT Tryd.prog 34 [.pointer x84, .agg #[.int .i64 x85.1, .int .i64 x85.2.1, .int .i64 x85.2.2], .slice b55 n56 c57] [.sc .slice, .sc .any] (fun (r86 : (Option Addr × Nat × Nat) × Value) h87 =>
  cutT [] (fun (K88 : Unit → Heap → Prop) h98 =>
  ifW r86.2 (br (!(isNilV r86.2))
  (K (.bool false) h98)
  (callT Tryd.prog 35 [.slice r86.1.1 r86.1.2.1 r86.1.2.2, .slice b25 n26 c27] [.sc .bool] (fun (r89 : Bool) h90 =>
  br (!r89)
  (K (.bool false) h90)
  (ldW .ptr a17 (fun (x91 : Option Addr) =>
  ldAggW [.int .i64, .int .i64, .int .i64] a1 (fun (x92 : Int × Int × Int) =>
  callT Tryd.prog 36 [.pointer x91, .agg #[.int .i64 x92.1, .int .i64 x92.2.1, .int .i64 x92.2.2], .slice b55 n56 c57, .slice b25 n26 c27] [.sc .any] (fun (r93 : Value) h94 =>
  ifW r93 (br (!(isNilV r93))
  (K (.bool false) h94)
  (ldW .ptr a17 (fun (x95 : Option Addr) =>
  callT Tryd.prog 33 [.pointer x95] [.sc (.int .i64)] (fun (r96 : Int) h97 =>
  br (r96 != r82)
  (K (.bool false) h97)
  (K88 () h97)) h94) h94))) h90) h90) h90)) h98))) (fun (_s99 : Unit) _ h100 =>
  cutT [] (fun (K101 : Unit → Heap → Prop) h105 =>
  br (decide (twice_3 < (0 : Int)))
  (K (.bool true) h105)
  (ldW (.int .i64) (Addr.add a1 2) (fun (x102 : Int) =>
  br (decide (twice_3 ≥ x102))
  (K (.bool true) h105)
  (ptrW b25 (fun a103 =>
  idxW twice_3 n26 true (ldW (.int .u32) (Addr.add a103 (Int.toNat twice_3 * 1)) (fun (x104 : Int) =>
  br (x104 == (0 : Int))
  (K (.bool true) h105)
  (K101 () h105)) h105)))) h105)) (fun (_s106 : Unit) _ h107 =>
  ldW (.int .i64) (Addr.add a1 2) (fun (x108 : Int) =>
  ckB (!decide (x108 = 0)) (ptrW b25 (fun a109 =>
  idxW twice_3 n26 true (ldW (.int .u32) (Addr.add a109 (Int.toNat twice_3 * 1)) (fun (x110 : Int) =>
  ptrW b25 (fun a111 =>
  idxW (Int.tmod (IntKind.wrap .i64 (twice_3 + (1 : Int))) x108) n26 true (stW (Addr.add a111 (Int.toNat (Int.tmod (IntKind.wrap .i64 (twice_3 + (1 : Int))) x108) * 1)) (.int .u32 x110) (fun h112 =>
  ldW (.int .i64) (Addr.add a1 2) (fun (x113 : Int) =>
  br (x113 == (1 : Int))
  (K (.bool true) h112)
  (ldW .ptr a17 (fun (x114 : Option Addr) =>
  ldAggW [.int .i64, .int .i64, .int .i64] a1 (fun (x115 : Int × Int × Int) =>
  callT Tryd.prog 36 [.pointer x114, .agg #[.int .i64 x115.1, .int .i64 x115.2.1, .int .i64 x115.2.2], .slice b55 n56 c57, .slice b25 n26 c27] [.sc .any] (fun (r116 : Value) h117 =>
  callT Tryd.prog 37 [r116, .int .i64 10] [.sc .bool] (fun (r118 : Bool) h119 =>
  K (.bool r118) h119) h117) h112) h112) h112)) h112) h107))) h107)))) h107) h100) h87) h83) h83) h83) h61) h61)) (0 : Int) h58) h54) h31) h31)) (0 : Int) h28) h23) h23) h22) h19)) h19) h18) h16) h12) h12) h12) h4)) h2) h0)
set_option maxRecDepth 100000 in
theorem F7_eq (g_0_0 : Int) (g_0_1 : Int) (g_0_2 : Int) (there_1 : Option Addr) (there_1l there_1c : Nat) (moved_2 : Option Addr) (moved_2l moved_2c : Nat) (twice_3 : Int) (K : Value → Heap → Prop) (h0 : Heap) : funWE Tryd.prog 7 (.seq (.leaf) (.seq (.seq (.leaf) (.cond (.seq (.leaf) (.leaf)) (.leaf))) (.cut [] (.seq (.leaf) (.cond (.seq (.leaf) (.leaf)) (.leaf))) (.seq (.leaf) (.seq (.seq (.leaf) (.cond (.seq (.leaf) (.leaf)) (.leaf))) (.seq (.leaf) (.seq (.leaf) (.seq (.leaf) (.seq (.seq (.leaf) (.block (.loop [(60, .sc (.int .i64))] (.seq (.leaf) (.seq (.cond (.leaf) (.leaf)) (.seq (.block (.seq (.leaf) (.cut [(72, .sc .bool)] (.leaf) (.cond (.seq (.leaf) (.cut [(15, .sc (.int .u8))] (.seq (.leaf) (.cond (.leaf) (.leaf))) (.leaf))) (.leaf))))) (.leaf))))))) (.seq (.leaf) (.seq (.seq (.leaf) (.block (.loop [(98, .sc (.int .i64))] (.seq (.leaf) (.seq (.cond (.leaf) (.leaf)) (.seq (.block (.seq (.leaf) (.seq (.leaf) (.seq (.seq (.leaf) (.block (.loop [(18, .sc .slice), (103, .sc (.int .i64))] (.seq (.leaf) (.seq (.cond (.leaf) (.leaf)) (.seq (.block (.seq (.leaf) (.leaf))) (.leaf))))))) (.leaf))))) (.leaf))))))) (.seq (.leaf) (.seq (.leaf) (.cut [] (.seq (.leaf) (.cond (.seq (.leaf) (.leaf)) (.leaf))) (.cut [] (.seq (.leaf) (.cond (.seq (.leaf) (.leaf)) (.leaf))) (.seq (.draw (odp [0, 1, 2, 3, 4, 5, 6, 7, 8, 9, 10, 11] .nil) []) (.seq (.leaf) (.leaf)))))))))))))))))) [.agg #[.int .i64 g_0_0, .int .i64 g_0_1, .int .i64 g_0_2], .slice there_1 there_1l there_1c, .slice moved_2 moved_2l moved_2c, .int .i64 twice_3] K h0 = F7 g_0_0 g_0_1 g_0_2 there_1 there_1l there_1c moved_2 moved_2l moved_2c twice_3 K h0 := by kernel_rfl

-- function 27
set_option maxRecDepth 100000 in
def F27 (kind_0 : Int) (id_1 : Int) (block_2 : Option Addr) (block_2l block_2c : Nat) (cap_0 : Addr) (cap_1 : Addr) (cap_2 : Addr) (K : Value → Heap → Prop) (h0 : Heap) : Prop := (
  cutT [] (fun (K1 : Unit → Heap → Prop) h9 =>
  ldW .ptr cap_0 (fun (x2 : Option Addr) =>
  ldW (.int .i64) cap_1 (fun (x3 : Int) =>
  ldW (.int .i64) (Addr.add cap_2 1) (fun (x4 : Int) =>
  callT Tryd.prog 28 [.pointer x2, .int .i64 x3] [.sc (.int .i64)] (fun (r5 : Int) h6 =>
  (cellH h6 (Addr.add cap_2 1) = some (.int .i64 x4) ∧ br (r5 == x4)
  (ldW (.int .i64) cap_1 (fun (x7 : Int) =>
  stW cap_1 (.int .i64 (IntKind.wrap .i64 (x7 + (1 : Int)))) (fun h8 =>
  K1 () h8) h6) h6)
  (K1 () h6))) h9) h9) h9) h9) (fun (_s10 : Unit) _ h11 =>
  ldW .ptr cap_0 (fun (x12 : Option Addr) =>
  ldAggW [.int .i64, .int .i64, .int .i64] cap_2 (fun (x13 : Int × Int × Int) =>
  ldW (.int .i64) cap_1 (fun (x14 : Int) =>
  callT Tryd.prog 29 [.pointer x12, .agg #[.int .i64 x13.1, .int .i64 x13.2.1, .int .i64 x13.2.2], .int .i64 x14, .agg #[.int .u8 kind_0, .int .u32 0, .int .u32 (IntKind.wrap .u32 id_1), .int .u32 0], .slice block_2 block_2l block_2c] [.sc (.int .u32), .sc .any] (fun (r15 : Int × Value) h16 =>
  K (.int .u32 r15.1) h16) h11) h11) h11) h11) h0)
set_option maxRecDepth 100000 in
theorem F27_eq (kind_0 : Int) (id_1 : Int) (block_2 : Option Addr) (block_2l block_2c : Nat) (cap_0 : Addr) (cap_1 : Addr) (cap_2 : Addr) (K : Value → Heap → Prop) (h0 : Heap) : funWE Tryd.prog 27 (.seq (.leaf) (.cut [] (.seq (.draw (odp [0, 1, 3, 4, 2, 5] .nil) [200004]) (.cond (.leaf) (.leaf))) (.seq (.leaf) (.seq (.leaf) (.leaf))))) [.int .u8 kind_0, .int .i64 id_1, .slice block_2 block_2l block_2c, .pointer (some cap_0), .pointer (some cap_1), .pointer (some cap_2)] K h0 = F27 kind_0 id_1 block_2 block_2l block_2c cap_0 cap_1 cap_2 K h0 := by kernel_rfl

-- function 35
set_option maxRecDepth 100000 in
def F35 (a_0 : Option Addr) (a_0l _a_0c : Nat) (b_1 : Option Addr) (b_1l _b_1c : Nat) (K : Value → Heap → Prop) (h0 : Heap) : Prop := (
  br ((((a_0l : Nat) : Int)) != (((b_1l : Nat) : Int)))
  (K (.bool false) h0)
  (loopT [.sc (.int .i64)] (fun (s2 : Int) _ (K1 : Int → Heap → Prop) h3 =>
  br (decide (s2 < (((a_0l : Nat) : Int))))
  (ptrW a_0 (fun a4 =>
  idxW s2 a_0l true (ldW (.int .u32) (Addr.add a4 (Int.toNat s2 * 1)) (fun (x5 : Int) =>
  ptrW b_1 (fun a6 =>
  idxW s2 b_1l true (ldW (.int .u32) (Addr.add a6 (Int.toNat s2 * 1)) (fun (x7 : Int) =>
  br (x5 != x7)
  (K (.bool false) h3)
  (K1 (IntKind.wrap .i64 (s2 + (1 : Int))) h3)) h3))) h3)))
  (K (.bool true) h3)) (0 : Int) h0))
set_option maxRecDepth 100000 in
theorem F35_eq (a_0 : Option Addr) (a_0l a_0c : Nat) (b_1 : Option Addr) (b_1l b_1c : Nat) (K : Value → Heap → Prop) (h0 : Heap) : funWE Tryd.prog 35 (.seq (.leaf) (.seq (.seq (.leaf) (.cond (.seq (.leaf) (.leaf)) (.leaf))) (.seq (.seq (.leaf) (.block (.loop [(5, .sc (.int .i64))] (.seq (.seq (.leaf) (.cond (.leaf) (.leaf))) (.seq (.block (.seq (.draw (odp [0, 1, 2, 3, 4, 5, 6, 7, 8] .nil) []) (.cond (.seq (.leaf) (.leaf)) (.leaf)))) (.leaf)))))) (.seq (.leaf) (.leaf))))) [.slice a_0 a_0l a_0c, .slice b_1 b_1l b_1c] K h0 = F35 a_0 a_0l a_0c b_1 b_1l b_1c K h0 := by kernel_rfl

end Go.Proofs.YthimfpkkdhpceaaDoor.W
/-
  What the law of dir shares: the base, bytes of one's own, numbers; awake.
-/
namespace Go.Proofs.YthimfpkkdhpceaaDoor.Dir
open Go.Pl Go.Proofs.YthimfpkkdhpceaaDoor.W Go.Proofs.YthimfpkkdhpceaaDoor.Byts Go.Proofs.YthimfpkkdhpceaaDoor.As Go.Proofs.YthimfpkkdhpceaaDoor.Err Go.Proofs.YthimfpkkdhpceaaDoor.Head Go.Proofs.YthimfpkkdhpceaaDoor.HdP Go.Proofs.YthimfpkkdhpceaaDoor.Zns Go.Proofs.YthimfpkkdhpceaaDoor.ZnsP Go.Proofs.YthimfpkkdhpceaaDoor.Geo Go.Proofs.YthimfpkkdhpceaaDoor.Med
structure Bz (h0 : Heap) (t : Tags) (h : Heap) : Prop where
  new : New h0 h
  tag : ∀ b, b < h0.size → (t b).1 = 0
theorem Bz.fr {S : Nat × Nat → Prop} {h0 h h' : Heap} {t t' : Tags} (b : Bz h0 t h) (f : Fr S t h t' h') (hS : ∀ p : Nat × Nat, p.1 = 0 → S p) : Bz h0 t' h' :=
  ⟨f.new b.new fun c hc => hS _ (b.tag c hc), fun c hc => by rw [f.tags c (Nat.lt_of_lt_of_le hc b.new.size)]; exact b.tag c hc⟩
theorem Bz.lay {h0 h h' : Heap} {t : Tags} (b : Bz h0 t h) (n : New h h') (p : Nat × Nat) : Bz h0 (lay t h.size p) h' := b.fr (S := fun _ => True) (Fr.lay n p) fun _ _ => trivial
theorem own_sl {h : Heap} {base c : Nat} {a : Option Addr} {xs : List Int} (o : OwnH h base 5 1 a xs.length c (xs.map (Value.int .u8))) (hb : Byt xs) : Sl8 h a c xs :=
  have r : RowS h 5 1 a xs.length c (xs.map (Value.int .u8)) := .inl (o.low (Nat.zero_le _))
  ⟨r.ar, r.le, r.capMax, fun e => by subst e; exact r.none0.2.1, hb⟩
theorem rnumbers_ok (a b : Option Addr) (ca cb : Nat) (xs ys : List Int) (h : Heap) (hx : xs.length ≤ 1000000) (ra : Ar .u32 h a xs) (rb : Ar .u32 h b ys) :
    CallsH Tryd.prog 35 [.slice a xs.length ca, .slice b ys.length cb] h fun v h' => v = .bool (decide (xs = ys)) ∧ h' = h := by
  refine fun_ok Geo.hm' Tryd.func35 (by kernel_rfl) (F35_eq _ _ _ _ _ _ _ h) ?_
  unfold F35
  refine br_of (fun hne => ?_) (fun heq => ?_)
  · have : xs ≠ ys := fun e => by subst e; simp at hne
    exact ⟨by simp [this], rfl⟩
  have hl : xs.length = ys.length := by simp at heq; omega
  refine ⟨fun (s : Int) h' => h' = h ∧ ∃ i : Nat, s = i ∧ i ≤ xs.length ∧ xs.take i = ys.take i, fun (s : Int) _ => (xs.length - s).toNat, ⟨rfl, 0, rfl, by omega, rfl⟩, ?_⟩
  rintro s j h' ⟨hh, i, rfl, hi, hpre⟩
  subst h'
  refine br_of (fun hlt => ?_) (fun hlt => ?_)
  · have hlt : i < xs.length := by simp at hlt; omega
    refine ix_ld ra hlt hlt (ix_ld rb (by omega) (by omega) (br_of (fun hd => ?_) (fun hd => ?_)))
    · have hd : xs[i] ≠ ys[i] := by simpa using hd
      have : xs ≠ ys := fun e => by subst e; exact hd rfl
      exact ⟨by simp [this], by trivial⟩
    · have hd : xs[i] = ys[i] := by simpa using hd
      rw [wr64 (by omega) (by omega)]
      refine ⟨⟨by trivial, i + 1, by omega, by omega, ?_⟩, by dsimp only; omega⟩
      rw [List.take_add_one, List.take_add_one, hpre, List.getElem?_eq_getElem hlt, List.getElem?_eq_getElem (show i < ys.length by omega), hd]
  · have hlt : ¬ (i : Int) < (xs.length : Int) := of_decide_eq_false hlt
    have : i = xs.length := by omega
    subst this
    rw [List.take_length, List.take_of_length_le (by omega)] at hpre
    exact ⟨by simp [hpre], rfl⟩
theorem zeroG : zeroC Tryd.prog 24 = #[.int .i64 0, .int .i64 0, .int .i64 0] := by kernel_rfl
theorem nil_of {h : Heap} {v : Value} {l : List (ByteArray × Int)} (e : ErrC h v l 0) : v = .nilIface := by
  cases l with
  | nil => exact e
  | cons q l => exact (e.1 rfl).elim
theorem blk16 {h : Heap} {b : Nat} (hb : Blk h b (Array.replicate 16 (Value.int .u8 0)) 5) : Sl8 h (some ⟨b, 0, none⟩) 16 zeros16 :=
  ⟨Ar.blk' hb fun i x hx => by
    have hi := (List.getElem?_eq_some_iff.1 hx).1
    have : x = 0 := List.eq_of_mem_replicate (List.mem_of_getElem? hx)
    subst this
    have hi : i < 16 := by simpa [zeros16] using hi
    rw [Array.getElem?_replicate, if_pos hi], by simp [zeros16], by simp [maxLen], (fun e => nomatch e), zeros16_byt⟩
theorem awake_plain {D : Dev} {zn : Nat} (P : Puts 11 4 D zn [((3, 0, 1, 0), Body.plsB (2, 0, 0, 0)), ((1, 0, 4, 0), zeros16)]) :
    plM 11 4 D [0, 1] 1 = ((2, 0, 0, 0), 0) ∧ plM 11 4 D [0, 1] 0 = ((0, 0, 0, 0), 0) ∧ plM 11 4 D [1, 0] 0 = ((0, 0, 0, 0), 10) ∧ soundM 11 4 D [0, 1] [0, 0, 0, 0, 2, 0] = true := by
  have g0 := P.got 0 _ rfl
  have g1 := P.got 1 _ rfl
  have k1 : getM 11 4 D 1 = ((3, 0, 1, 0), Body.plsB (2, 0, 0, 0), 0) := g0
  have k2 : getM 11 4 D 2 = ((1, 0, 4, 0), zeros16, 0) := g1
  have q1 : goodP 11 4 D 1 1 [3] = true := goodP_iff.2 (by rw [k1]; exact ⟨rfl, rfl, by simp⟩)
  have q2 : goodP 11 4 D 2 4 [1, 4] = true := goodP_iff.2 (by rw [k2]; exact ⟨rfl, rfl, by simp⟩)
  have q3 : goodP 11 4 D 1 0 [3] = false := by
    cases h : goodP 11 4 D 1 0 [3] with
    | false => rfl
    | true =>
      have := (goodP_iff.1 h).2.1
      rw [k1] at this
      exact absurd this (by decide)
  have hok : Body.PlsOk (2, 0, 0, 0) := by
    intro j
    unfold Body.word
    split <;> simp
  refine ⟨?_, rfl, ?_, ?_⟩
  · show (if goodP 11 4 D 1 1 [3] = true then (Body.plsOf (getM 11 4 D 1).2.1, (0 : Int)) else ((0, 0, 0, 0), 10)) = _
    rw [if_pos q1, k1, Body.plsOf_plsB hok]
  · show (if goodP 11 4 D 1 0 [3] = true then (Body.plsOf (getM 11 4 D 1).2.1, (0 : Int)) else ((0, 0, 0, 0), 10)) = _
    rw [if_neg (by rw [q3]; simp)]
  · have q1' : goodP 11 4 D 1 ((0 + 1 : Nat) : Int) [3] = true := q1
    have q2' : goodP 11 4 D 2 ((0 + 1 + 1 + 1 + 1 : Nat) : Int) [1, 4] = true := q2
    unfold soundM
    simp only [lookM, if_true, q1', q2', List.nil_append, List.not_mem_nil, if_false, List.mem_singleton]
    simp
theorem awake_ok (h : Heap) (hg : Laid h) : CallsH Tryd.prog 24 [] h fun v h' => v = .bool true ∧ New h h' := by
  refine fun_ok Geo.hm' Tryd.func24 (by kernel_rfl) (F24_eq _ h) ?_
  unfold F24
  rw [zeroG, Body.zeroP]
  refine new_stL rfl fun h1 b1 n1 s1 => ?_
  have b1 : Blk h1 h.size #[.int .i64 11, .int .i64 4, .int .i64 6] 24 := b1
  refine call_of (ZnsP.new_ok 1 (by decide) (fun _ => (0, 0)) 11 4 h1 (by omega) (by omega)) ?_
  rintro v h2 ⟨b, rfl, n2, _, t2, ht2, r2⟩
  have r2 : PRep 1 t2 h2 b (Dev.empty 11 4) := r2
  have z2 : Bz h1 t2 h2 := ⟨n2, fun g hg => by rw [ht2 g hg]⟩
  have P0 : Puts 11 4 (Dev.empty 11 4) 0 [] := Puts.start (z := 11) (p := 4) (by omega) (by omega)
  have e0 : nextZ (Dev.empty 11 4) 0 = 0 := rfl
  generalize Dev.empty 11 4 = D0 at *
  have geo : ∀ h', New h1 h' → Blk h' h.size #[.int .i64 11, .int .i64 4, .int .i64 6] 24 := fun h' n => b1.new n
  let gv : Int × Int × Int := (11, 4, 6)
  refine ⟨(some ⟨b, 0, none⟩, errV 0), rfl, br_f rfl (ldAgg_blk gv (geo h2 n2) ⟨rfl, rfl, rfl, trivial⟩ (call_of (Body.ofPlaces_ok (2, 0, 0, 0) h2) ?_))⟩
  rintro v h3 ⟨pa, pc, rfl, po, n3⟩
  have cell : ∀ h', New h1 h' → ∀ (j : Nat) (x : Value), (#[Value.int .i64 11, .int .i64 4, .int .i64 6])[j]? = some x → cellH h' (Addr.add ⟨h.size, 0, none⟩ j) = some x := fun h' n j x hj => by
    rw [add_mk, Nat.zero_add, cellH_blk (geo h' n)]; exact hj
  have n13 := n2.trans n3
  refine ⟨(pa, _, pc), rfl, cell h3 n13 0 _ rfl, cell h3 n13 1 _ rfl, cell h3 n13 2 _ rfl, ?_⟩
  obtain ⟨D1, hp1, P1⟩ := P0.put (by decide) (x := (3, 0, 1, 0)) ⟨by decide, by decide, by decide, by decide⟩ rfl (bs := Body.plsB (2, 0, 0, 0)) (Body.plsB_len _) (Body.plsB_byt _)
  rw [e0] at hp1 P1
  have hp1 : putM 11 4 D0 0 (3, 0, 1, 0) (Body.plsB (2, 0, 0, 0)) = (D1, 1, 0) := hp1
  refine call_of (put_ok (by decide) P0.gok 6 0 (3, 0, 1, 0) ⟨by decide, by decide, by decide, by decide⟩ pa pc (Body.plsB (2, 0, 0, 0)) h3 (r2.new n3) (own_sl po (Body.plsB_byt _))) ?_
  rintro v h4 ⟨e4, l4, rfl, _, t4, r4, f4⟩
  rw [hp1] at r4 ⊢
  have z3 : Bz h1 t2 h3 := ⟨n13, z2.tag⟩
  have z4 : Bz h1 t4 h4 := z3.fr f4 fun p hp => by rw [hp]; decide
  refine ⟨((1 : Int), e4), rfl, ldAgg_blk gv (geo h4 z4.new) ⟨rfl, rfl, rfl, trivial⟩ (mk_of (n := 16) Body.size5 Body.zero5 (by rw [Body.bytes5]; omega) (by omega) fun h5 b5 n5 s5 => ?_)⟩
  have e1 : nextZ D1 0 = 0 := by
    have h3 : (1 : Int) = ((0 : Nat) : Int) * 4 + (D1.point ((0 : Nat) : Int) : Int) := P1.len
    have h4 := P1.gok.P
    unfold nextZ
    rw [if_neg]
    omega
  obtain ⟨D2, hp2, P2⟩ := P1.put (by decide) (x := (1, 0, 4, 0)) ⟨by decide, by decide, by decide, by decide⟩ rfl (bs := zeros16) rfl zeros16_byt
  rw [e1] at hp2 P2
  have hp2 : putM 11 4 D1 0 (1, 0, 4, 0) zeros16 = (D2, 2, 0) := hp2
  have P2 : Puts 11 4 D2 0 [((3, 0, 1, 0), Body.plsB (2, 0, 0, 0)), ((1, 0, 4, 0), zeros16)] := P2
  refine call_of (put_ok (by decide) P1.gok 6 0 (1, 0, 4, 0) ⟨by decide, by decide, by decide, by decide⟩ (some ⟨h4.size, 0, none⟩) 16 zeros16 h5 (r4.new n5) (blk16 b5)) ?_
  rintro v h6 ⟨e6, l6, rfl, _, t6, r6, f6⟩
  rw [hp2] at r6 ⊢
  have z5 : Bz h1 t4 h5 := ⟨z4.new.trans n5, z4.tag⟩
  have z6 : Bz h1 t6 h6 := z5.fr f6 fun p hp => by rw [hp]; decide
  obtain ⟨pl1, pl0, pl3, hsm⟩ := awake_plain P2
  have hdx : ∀ x ∈ ([0, 1] : List Int), 0 ≤ x ∧ x < 4294967296 := by simp
  have hdy : ∀ x ∈ ([1, 0] : List Int), 0 ≤ x ∧ x < 4294967296 := by simp
  refine ⟨((2 : Int), e6), rfl, new_of fun h7 b7 n7 s7 => ldAgg_blk gv (geo h7 (z6.new.trans n7)) ⟨rfl, rfl, rfl, trivial⟩ (call_of (places_ok P2.gok P2.up 6 (by omega) (some ⟨h6.size, 0, none⟩) 2 [0, 1] (by decide) hdx 1 h7 (r6.new n7) (Ar.blk b7)) ?_)⟩
  rintro v h8 ⟨n8, e8, l8, rfl, he8⟩
  rw [pl1] at he8 ⊢
  obtain rfl := nil_of he8
  refine ⟨(((2 : Int), (0 : Int), (0 : Int), (0 : Int)), .nilIface), rfl, new_stL rfl fun h9 b9 n9 s9 => ?_⟩
  have n69 := (n7.trans n8).trans n9
  have a9 := (Ar.blk (k := .u32) (xs := [0, 1]) b7).new (n8.trans n9)
  have fl : flatP 11 4 D2 [0, 1] 2 = [0, 0, 0, 0, 2, 0, 0, 0] := by
    rw [flatP_succ, flatP_succ]
    show (flatP 11 4 D2 [0, 1] 0 ++ pl4 (plM 11 4 D2 [0, 1] 0).1) ++ pl4 (plM 11 4 D2 [0, 1] 1).1 = _
    rw [pl0, pl1]; rfl
  refine ldAgg_blk gv (geo h9 (z6.new.trans n69)) ⟨rfl, rfl, rfl, trivial⟩ (call_of (all_ok P2.gok P2.up 6 (by omega) (some ⟨h6.size, 0, none⟩) 2 [0, 1] (by decide) hdx h9 (r6.new n69) a9 (fun i hi => ?_) ?_) ?_)
  · have hi : i < 2 := hi
    have : i = 0 ∨ i = 1 := by omega
    rcases this with rfl | rfl
    · show (plM 11 4 D2 [0, 1] 0).2 = 0
      rw [pl0]
    · show (plM 11 4 D2 [0, 1] 1).2 = 0
      rw [pl1]
  · show ∀ x ∈ (flatP 11 4 D2 [0, 1] 2).drop 6, x = 0
    rw [fl]; simp
  rintro v h10 ⟨n10, aa, ac, rfl, ar10, hab⟩
  have ar10 : Ar .u32 h10 aa ((flatP 11 4 D2 [0, 1] 2).take 6) := ar10
  rw [fl] at ar10
  have ar10 : Ar .u32 h10 aa [0, 0, 0, 0, 2, 0] := ar10
  have n610 := n69.trans n10
  refine ⟨((aa, 6, ac), .nilIface), rfl, ldAgg_blk gv (geo h10 (z6.new.trans n610)) ⟨rfl, rfl, rfl, trivial⟩ (new_of fun h11 b11 n11 s11 => call_of (places_ok P2.gok P2.up 6 (by omega) (some ⟨h10.size, 0, none⟩) 2 [1, 0] (by decide) hdy 0 h11 (r6.new (n610.trans n11)) (Ar.blk b11)) ?_)⟩
  rintro v h12 ⟨n12, e12, l12, rfl, he12⟩
  rw [pl3] at he12 ⊢
  refine ⟨(((0 : Int), (0 : Int), (0 : Int), (0 : Int)), e12), rfl, new_stL rfl fun h13 b13 n13' s13 => ?_⟩
  have n913 := ((n10.trans n11).trans n12).trans n13'
  have b9' : Blk h9 h8.size #[.int .u32 2, .int .u32 0, .int .u32 0, .int .u32 0] 72 := b9
  let pv : Int × Int × Int × Int := (2, 0, 0, 0)
  refine br_t rfl (br_t rfl (ldAgg_blk pv (b9'.new n913) ⟨rfl, rfl, rfl, rfl, trivial⟩ ⟨_, Body.pls_eq pv pv, br_t (decide_eq_true rfl) ⟨.inl rfl, br_t rfl ⟨.inl rfl, br_t rfl (new_of fun h14 b14 n14 s14 => call_of (rnumbers_ok aa (some ⟨h13.size, 0, none⟩) ac 6 [0, 0, 0, 0, 2, 0] [0, 0, 0, 0, 2, 0] h14 (by decide) (ar10.new (((n11.trans n12).trans n13').trans n14)) (Ar.blk b14)) ?_)⟩⟩⟩))
  rintro v h' ⟨rfl, hh⟩; subst h'
  have n914 := n913.trans n14
  have n614 := n69.trans n914
  refine ⟨_, rfl, br_t (decide_eq_true rfl) (ldAgg_blk gv (geo h14 (z6.new.trans n614)) ⟨rfl, rfl, rfl, trivial⟩ (call_of (sound_ok P2.gok P2.up 6 (by omega) (some ⟨h6.size, 0, none⟩) aa 2 ac [0, 1] [0, 0, 0, 0, 2, 0] (by decide) (by decide) hdx (by simp) h14 (r6.new n614) (a9.new n914) (ar10.new (((n11.trans n12).trans n13').trans n14))
    (fun q hq => by have : h6.size = q := Option.some.inj hq
                    have := n614.size; have := s7; have := n7.size; have := b7.lt; have := (n8.trans (n9.trans n914)).size; omega)
    (fun q hq => by have := hab q hq; have := (((n11.trans n12).trans n13').trans n14).size; omega)) ?_))⟩
  rintro v h15 ⟨n15, l15, he15⟩
  rw [hsm] at he15
  obtain rfl := nil_of he15
  have nAll : New h h15 := (n1.trans z6.new).trans (n614.trans n15)
  refine ⟨.nilIface, rfl, .inl rfl, br_t rfl (call_of (code_ok e12 l12 10 h15 (hg.new nAll) (he12.new ((n13'.trans n14).trans n15))) ?_)⟩
  rintro v h16 ⟨rfl, n16⟩
  refine ⟨(10 : Int), rfl, br_t rfl (ldAgg_blk pv (b9'.new ((n914.trans n15).trans n16)) ⟨rfl, rfl, rfl, rfl, trivial⟩ (new_of fun h17 b17 n17 s17 => call_of (lay_ok (fun i => if i = 0 then 2 else 0) 1 (some ⟨h16.size, 0, none⟩) 1 [(5, 7)] (by simp) (by decide) h17 (fun i q hq => ?_)) ?_))⟩
  · have hi : i = 0 := by have := (List.getElem?_eq_some_iff.1 hq).1; simpa using this
    subst hi
    have hq : (5, 7) = q := Option.some.inj hq
    subst hq
    exact ⟨_, _, _, rfl, b17, rfl, rfl, rfl, trivial⟩
  rintro v h18 ⟨rfl, n18⟩
  let qv : Int × Int × Int × Int := (2, 7, 0, 0)
  exact ⟨qv, rfl, _, Body.pls_eq qv qv, by simp, ((nAll.trans n16).trans n17).trans n18⟩
end Go.Proofs.YthimfpkkdhpceaaDoor.Dir
/-
  The formulas of the reference of geo. Each formula checked by the kernel. Printed by a program of this repo.
-/
namespace Go.Proofs.YthimfpkkdhpceaaDoor.W
open Go.Pl

-- function 64
set_option maxRecDepth 100000 in
def F64 (zones_0 : Int) (pages_1 : Int) (K : Value → Heap → Prop) (h0 : Heap) : Prop := (
  cutT [] (fun (K1 : Unit → Heap → Prop) h2 =>
  br (decide (zones_0 < (11 : Int)))
  (K (.int .i64 0) h2)
  (br (decide (zones_0 > (24 : Int)))
  (K (.int .i64 0) h2)
  (br (decide (pages_1 < (4 : Int)))
  (K (.int .i64 0) h2)
  (br (decide (pages_1 > (16 : Int)))
  (K (.int .i64 0) h2)
  (K1 () h2))))) (fun (_s3 : Unit) _ h4 =>
  loopT [.sc (.int .i64), .sc (.int .i64)] (fun (s6 : Int × Int) _ (K5 : (Int × Int) → Heap → Prop) h7 =>
  br (decide (s6.2 ≤ (64 : Int)))
  (callT Tryd.prog 59 [.int .i64 s6.2] [.sc (.int .i64)] (fun (r8 : Int) h9 =>
  br (decide (r8 ≤ pages_1))
  (callT Tryd.prog 59 [.int .i64 s6.2] [.sc (.int .i64)] (fun (r10 : Int) h11 =>
  br (decide ((IntKind.wrap .i64 ((2 : Int) * (IntKind.wrap .i64 (s6.2 + r10)))) ≤ (IntKind.wrap .i64 ((IntKind.wrap .i64 (zones_0 - (7 : Int))) * pages_1))))
  (K5 (s6.2, (IntKind.wrap .i64 (s6.2 + (1 : Int)))) h11)
  (K5 (s6.1, (IntKind.wrap .i64 (s6.2 + (1 : Int)))) h11)) h9)
  (K5 (s6.1, (IntKind.wrap .i64 (s6.2 + (1 : Int)))) h9)) h7)
  (K (.int .i64 s6.1) h7)) ((0 : Int), (1 : Int)) h4) h0)
set_option maxRecDepth 100000 in
theorem F64_eq (zones_0 : Int) (pages_1 : Int) (K : Value → Heap → Prop) (h0 : Heap) : funWE Tryd.prog 64 (.seq (.leaf) (.seq (.leaf) (.cut [] (.seq (.leaf) (.cond (.seq (.leaf) (.leaf)) (.leaf))) (.seq (.seq (.leaf) (.block (.loop [(5, .sc (.int .i64)), (6, .sc (.int .i64))] (.seq (.seq (.leaf) (.cond (.leaf) (.leaf))) (.seq (.block (.seq (.leaf) (.cond (.leaf) (.leaf)))) (.leaf)))))) (.seq (.leaf) (.leaf)))))) [.int .i64 zones_0, .int .i64 pages_1] K h0 = F64 zones_0 pages_1 K h0 := by kernel_rfl

-- function 25
set_option maxRecDepth 100000 in
def F25 (g_0_0 : Int) (g_0_1 : Int) (g_0_2 : Int) (K : Value → Heap → Prop) (h0 : Heap) : Prop := (
  newW (.cells #[.int .i64 g_0_0, .int .i64 g_0_1, .int .i64 g_0_2] 38) (fun a1 h2 =>
  ldW (.int .i64) (Addr.add a1 2) (fun (x3 : Int) =>
  br (decide (x3 ≥ (1 : Int)))
  (ldW (.int .i64) (Addr.add a1 2) (fun (x4 : Int) =>
  ldW (.int .i64) (Addr.add a1 0) (fun (x5 : Int) =>
  ldW (.int .i64) (Addr.add a1 1) (fun (x6 : Int) =>
  callT Tryd.prog 64 [.int .i64 x5, .int .i64 x6] [.sc (.int .i64)] (fun (r7 : Int) h8 =>
  (cellH h8 (Addr.add a1 2) = some (.int .i64 x4) ∧ K (.bool (decide (x4 ≤ r7))) h8)) h2) h2) h2) h2)
  (K (.bool false) h2)) h2) h0)
set_option maxRecDepth 100000 in
theorem F25_eq (g_0_0 : Int) (g_0_1 : Int) (g_0_2 : Int) (K : Value → Heap → Prop) (h0 : Heap) : funWE Tryd.prog 25 (.seq (.leaf) (.seq (.draw (odp [0, 1, 2, 3, 4, 5, 6, 7, 8, 9, 10, 11, 12, 13] .nil) [200005]) (.leaf))) [.agg #[.int .i64 g_0_0, .int .i64 g_0_1, .int .i64 g_0_2]] K h0 = F25 g_0_0 g_0_1 g_0_2 K h0 := by kernel_rfl

-- function 59
set_option maxRecDepth 100000 in
def F59 (blocks_0 : Int) (K : Value → Heap → Prop) (h0 : Heap) : Prop := (
  br (decide ((Int.tmod blocks_0 (4 : Int)) > (0 : Int)))
  (K (.int .i64 (IntKind.wrap .i64 ((IntKind.wrap .i64 (Int.tdiv blocks_0 (4 : Int))) + (1 : Int)))) h0)
  (K (.int .i64 (IntKind.wrap .i64 (Int.tdiv blocks_0 (4 : Int)))) h0))
set_option maxRecDepth 100000 in
theorem F59_eq (blocks_0 : Int) (K : Value → Heap → Prop) (h0 : Heap) : funWE Tryd.prog 59 (.seq (.leaf) (.seq (.leaf) (.seq (.seq (.leaf) (.cond (.leaf) (.leaf))) (.seq (.leaf) (.leaf))))) [.int .i64 blocks_0] K h0 = F59 blocks_0 K h0 := by kernel_rfl

end Go.Proofs.YthimfpkkdhpceaaDoor.W
/-
  The reference of geo: its contracts.
-/
namespace Go.Proofs.YthimfpkkdhpceaaDoor.R2
open Go.Pl Go.Proofs.YthimfpkkdhpceaaDoor.W Go.Proofs.YthimfpkkdhpceaaDoor.Geo
theorem tab_ok (n : Int) (h : Heap) (h0 : 0 ≤ n) (h1 : n ≤ 1000000) : CallsH Tryd.prog 59 [.int .i64 n] h fun v h' => v = .int .i64 ((n + 3) / 4) ∧ h' = h := by
  refine fun_ok hm' Tryd.func59 (by kernel_rfl) (F59_eq _ _ h) ?_
  unfold F59
  rw [Int.tdiv_eq_ediv_of_nonneg h0, Int.tmod_eq_emod_of_nonneg h0, wr64 (n := n / 4) (by omega) (by omega), wr64 (by omega) (by omega)]
  refine br_of (fun hb => ⟨?_, rfl⟩) (fun hb => ⟨?_, rfl⟩)
  · have := of_decide_eq_true hb
    rw [show n / 4 + 1 = (n + 3) / 4 by omega]
  · have := of_decide_eq_false hb
    rw [show n / 4 = (n + 3) / 4 by omega]
theorem rbound_ok (z p : Int) (h : Heap) : CallsH Tryd.prog 64 [.int .i64 z, .int .i64 p] h fun v h' => v = .int .i64 (boundF z p) ∧ h' = h := by
  refine fun_ok hm' Tryd.func64 (by kernel_rfl) (F64_eq _ _ _ h) ?_
  unfold F64
  have no : ¬ ((11 ≤ z ∧ z ≤ 24) ∧ 4 ≤ p ∧ p ≤ 16) → boundF z p = 0 := fun hh => if_neg hh
  refine cut_q (ts := []) (fun _ h' => h' = h ∧ (11 ≤ z ∧ z ≤ 24) ∧ 4 ≤ p ∧ p ≤ 16) ?_ ?_
  rotate_left
  · intro K hK
    refine br_of (fun h1 => ⟨by rw [no (by have := of_decide_eq_true h1; omega)], rfl⟩) fun h1 => br_of (fun h2 => ⟨by rw [no (by have := of_decide_eq_true h2; omega)], rfl⟩) fun h2 => br_of (fun h3 => ⟨by rw [no (by have := of_decide_eq_true h3; omega)], rfl⟩) fun h3 => br_of (fun h4 => ⟨by rw [no (by have := of_decide_eq_true h4; omega)], rfl⟩) fun h4 => hK () _ ⟨rfl, ?_⟩
    have h1 := of_decide_eq_false h1; have h2 := of_decide_eq_false h2; have h3 := of_decide_eq_false h3; have h4 := of_decide_eq_false h4
    omega
  rintro _ h' ⟨hh, hz, hp⟩ _; subst h'
  have hb : boundF z p = boundFrom z p 64 := if_pos ⟨hz, hp⟩
  have hzp : 0 ≤ (z - 7) * p ∧ (z - 7) * p ≤ 17 * 16 := ⟨Int.mul_nonneg (by omega) (by omega), Int.mul_le_mul (by omega) (by omega) (by omega) (by omega)⟩
  refine ⟨fun (s : Int × Int) h' => h' = h ∧ ∃ i : Nat, s = (boundFrom z p i, ((i + 1 : Nat) : Int)) ∧ i ≤ 64, fun (s : Int × Int) _ => (65 - s.2).toNat, ⟨rfl, 0, rfl, by omega⟩, ?_⟩
  rintro s j h' ⟨hh, i, rfl, hi⟩; subst h'
  have hbl := boundFrom_le z p i
  refine br_of (fun hlt => ?_) (fun hlt => ?_)
  · have hlt : ((i + 1 : Nat) : Int) ≤ 64 := of_decide_eq_true hlt
    have e3 : IntKind.wrap .i64 (((i + 1 : Nat) : Int) + 1) = ((i + 1 + 1 : Nat) : Int) := by rw [wr64 (by omega) (by omega)]; rfl
    have step : ∀ b : Int, b = boundFrom z p (i + 1) → (h = h ∧ ∃ i' : Nat, (b, ((i + 1 + 1 : Nat) : Int)) = (boundFrom z p i', ((i' + 1 : Nat) : Int)) ∧ i' ≤ 64) ∧ ((65 : Int) - ((i + 1 + 1 : Nat) : Int)).toNat < ((65 : Int) - ((i + 1 : Nat) : Int)).toNat := fun b hb => ⟨⟨rfl, i + 1, by rw [hb], by omega⟩, by omega⟩
    have e4 : IntKind.wrap .i64 ((IntKind.wrap .i64 (z - (7 : Int))) * p) = (z - 7) * p := by rw [wr64 (n := z - 7) (by omega) (by omega), wr64 (by omega) (by omega)]
    have e5 : IntKind.wrap .i64 ((2 : Int) * IntKind.wrap .i64 (((i + 1 : Nat) : Int) + (((i + 1 : Nat) : Int) + 3) / 4)) = 2 * (((i + 1 : Nat) : Int) + (((i + 1 : Nat) : Int) + 3) / 4) := by rw [wr64 (n := ((i + 1 : Nat) : Int) + _) (by omega) (by omega), wr64 (by omega) (by omega)]
    refine call_of (tab_ok ((i + 1 : Nat) : Int) h (by omega) (by omega)) ?_
    rintro v h' ⟨rfl, hh⟩; subst h'
    refine ⟨((((i + 1 : Nat) : Int) + 3) / 4 : Int), rfl, br_of (fun h1 => ?_) fun h1 => ?_⟩
    · refine call_of (tab_ok ((i + 1 : Nat) : Int) h (by omega) (by omega)) ?_
      rintro v h' ⟨rfl, hh⟩; subst h'
      refine ⟨((((i + 1 : Nat) : Int) + 3) / 4 : Int), rfl, ?_⟩
      rw [e3, e4, e5]
      have h1 : (((i + 1 : Nat) : Int) + 3) / 4 ≤ p := of_decide_eq_true h1
      refine br_of (fun h2 => step _ ?_) (fun h2 => step _ ?_)
      · have h2 : 2 * (((i + 1 : Nat) : Int) + (((i + 1 : Nat) : Int) + 3) / 4) ≤ (z - 7) * p := of_decide_eq_true h2
        simp only [boundFrom]
        rw [if_pos]
        unfold okB
        rw [decide_eq_true h1, decide_eq_true (by generalize (z - 7) * p = Q at *; omega)]; rfl
      · have h2 : ¬ 2 * (((i + 1 : Nat) : Int) + (((i + 1 : Nat) : Int) + 3) / 4) ≤ (z - 7) * p := of_decide_eq_false h2
        simp only [boundFrom]
        rw [if_neg]
        unfold okB
        rw [decide_eq_false (p := _ ≤ (z - 7) * p / 2) (by generalize (z - 7) * p = Q at *; omega)]; simp
    · rw [e3]
      have h1 : ¬ (((i + 1 : Nat) : Int) + 3) / 4 ≤ p := of_decide_eq_false h1
      refine step _ ?_
      simp only [boundFrom]
      rw [if_neg]
      unfold okB
      rw [decide_eq_false (p := _ ≤ p) h1]; simp
  · have hlt : ¬ ((i + 1 : Nat) : Int) ≤ 64 := of_decide_eq_false hlt
    have : i = 64 := by omega
    subst this
    exact ⟨by rw [hb], rfl⟩
theorem rright_ok (z p b : Int) (h : Heap) : CallsH Tryd.prog 25 [.agg #[.int .i64 z, .int .i64 p, .int .i64 b]] h fun v h' => v = .bool (rightB z p b) ∧ New h h' := by
  refine fun_ok hm' Tryd.func25 (by kernel_rfl) (F25_eq _ _ _ _ h) ?_
  unfold F25
  refine new_of fun h2 b2 n2 s2 => ld_of (c := .int .i64) b (by rw [add_mk, cellH_blk b2]; rfl) (br_of (fun h1 => ?_) fun h1 => ⟨?_, n2⟩)
  · refine ld_of (c := .int .i64) b (by rw [add_mk, cellH_blk b2]; rfl) (ld_of (c := .int .i64) z (by rw [add_mk, cellH_blk b2]; rfl) (ld_of (c := .int .i64) p (by rw [add_mk, cellH_blk b2]; rfl) (call_of (rbound_ok z p h2) ?_)))
    rintro v h' ⟨rfl, hh⟩; subst h'
    refine ⟨boundF z p, rfl, by rw [add_mk, cellH_blk b2]; rfl, ?_, n2⟩
    unfold rightB
    rw [decide_eq_true (p := 1 ≤ b) (of_decide_eq_true h1), Bool.and_true]
  · unfold rightB
    rw [decide_eq_false (p := 1 ≤ b) (of_decide_eq_false h1), Bool.and_false]
end Go.Proofs.YthimfpkkdhpceaaDoor.R2
/-
  DirBack: the pages that are put.
-/
namespace Go.Proofs.YthimfpkkdhpceaaDoor.Dir
open Go.Pl Go.Proofs.YthimfpkkdhpceaaDoor.W Go.Proofs.YthimfpkkdhpceaaDoor.Byts Go.Proofs.YthimfpkkdhpceaaDoor.As Go.Proofs.YthimfpkkdhpceaaDoor.Err Go.Proofs.YthimfpkkdhpceaaDoor.Head Go.Proofs.YthimfpkkdhpceaaDoor.HdP Go.Proofs.YthimfpkkdhpceaaDoor.Zns Go.Proofs.YthimfpkkdhpceaaDoor.ZnsP Go.Proofs.YthimfpkkdhpceaaDoor.Geo Go.Proofs.YthimfpkkdhpceaaDoor.Med
/-- What stays where pages are put: all but the device's blocks, and one more. -/
structure Kept (c : Nat) (t : Tags) (h : Heap) (t' : Tags) (h' : Heap) : Prop where
  size : h.size ≤ h'.size
  tags : ∀ g, g < h.size → t' g = t g
  same : ∀ g, g < h.size → (t g).1 ≠ 1 → g ≠ c → h'[g]? = h[g]?
theorem Kept.blk {c : Nat} {t t' : Tags} {h h' : Heap} (k : Kept c t h t' h') {g : Nat} {arr : Array Value} {T : TypeId} (b : Blk h g arr T) (ht : (t g).1 ≠ 1) (hc : g ≠ c) : Blk h' g arr T := (k.same g b.lt ht hc).trans b
def PutP (z p : Int) (b c1 : Nat) (Tz : TypeId) (D : Dev) (zn : Nat) (log : List (Hd × List Int)) (x : Hd) (bs : List Int) (t : Tags) (h : Heap) (v : Value) (h' : Heap) : Prop :=
  v = .int .u32 ((log.length : Int) + 1) ∧ ∃ D' t', Puts z p D' (nextZ D zn) (log ++ [(x, bs)]) ∧ PRep 1 t' h' b D' ∧ Blk h' c1 #[.int .i64 (nextZ D zn : Int)] Tz ∧ Kept c1 t h t' h'
theorem put17_ok {z p g : Int} {b c0 c1 c2 : Nat} {T0 Tz T2 : TypeId} {D : Dev} {zn : Nat} {log : List (Hd × List Int)} (P : Puts z p D zn log) (hr : (log.length : Int) < (z - 2) * p) (kd : Int) (hk : 1 ≤ kd ∧ kd ≤ 5) (id : Nat) (hid : id < 1000) (ba : Option Addr) (bc : Nat) (bs : List Int) (hl : bs.length = 16) (t : Tags) (h : Heap)
    (r : PRep 1 t h b D) (s : Sl8 h ba bc bs) (b0 : Blk h c0 #[ptr b] T0) (b1 : Blk h c1 #[.int .i64 (zn : Int)] Tz) (b2 : Blk h c2 #[.int .i64 z, .int .i64 p, .int .i64 g] T2) (t1 : (t c1).1 = 3) (n0 : c0 ≠ c1) (n2 : c2 ≠ c1) (nb : blkOf ba ≠ some c1) :
    CallsH Tryd.prog 27 [.int .u8 kd, .int .i64 (id : Int), .slice ba bs.length bc, ptr c0, ptr c1, ptr c2] h (PutP z p b c1 Tz D zn log (kd, 0, (id : Int), 0) bs t h) := by
  refine fun_ok Geo.hm' Tryd.func27 (by kernel_rfl) (F27_eq _ _ _ _ _ _ _ _ _ h) ?_
  unfold F27
  have hzb : zn ≤ 24 := by
    have h1 := P.gok.pr
    have h2 := P.gok.zr
    have h3 := P.len
    refine Nat.le_of_not_lt fun hc => ?_
    have h4 : (z - 2) * p ≤ (zn : Int) * p := Int.mul_le_mul_of_nonneg_right (by omega) (by omega)
    omega
  refine cut_q (ts := []) (fun _ h' => PRep 1 t h' b D ∧ Blk h' c1 #[.int .i64 (nextZ D zn : Int)] Tz ∧ Upd c1 h h') ?_ fun K kk => ?_
  rotate_left
  · have k1 : cellH h (Addr.add ⟨c2, 0, none⟩ 1) = some (.int .i64 p) := by rw [add_mk, cellH_blk b2]; rfl
    refine ld_of (c := .ptr) (some ⟨b, 0, none⟩) (by rw [cellH_blk b0]; rfl) (ld_of (c := .int .i64) (zn : Int) (by rw [cellH_blk b1]; rfl) (ld_of (c := .int .i64) p k1 (call_of (point_ok (zn : Int) h r) ?_)))
    rintro v h1 ⟨rfl, m1⟩
    refine ⟨_, rfl, by rw [add_mk, cellH_blk (b2.new m1)]; rfl, br_of (fun he => ?_) (fun he => ?_)⟩
    · have he : D.point (zn : Int) = D.P := by have := P.gok.P; have : (D.point (zn : Int) : Int) = p := by simpa using he
                                               omega
      have hnx : nextZ D zn = zn + 1 := if_pos he
      refine ld_of (c := .int .i64) (zn : Int) (by rw [cellH_blk (b1.new m1)]; rfl) ?_
      rw [wr64 (by omega) (by omega)]
      refine st_blk (b1.new m1) Nat.one_pos fun h2 b12 o2 => kk () h2 ⟨?_, ?_, m1.upd.trans o2.upd⟩
      · have f : Fr (fun q : Nat × Nat => q.1 ≠ 3) t h t h2 := Fr.upd (m1.upd.trans o2.upd) (by rw [t1]; simp)
        exact r.fr f (fun q hq => by rw [hq]; decide) fun _ => by simp
      · rw [hnx]; exact b12
    · have he : ¬ D.point (zn : Int) = D.P := fun e => by have := P.gok.P; simp at he; omega
      have hnx : nextZ D zn = zn := if_neg he
      exact kk () h1 ⟨r.new m1, by rw [hnx]; exact b1.new m1, m1.upd⟩
  rintro _ h3 ⟨r3, b13, u3⟩ _
  obtain ⟨D', hp, P'⟩ := P.put hr (x := (kd, 0, (id : Int), 0)) ⟨by simp; omega, by simp, by simp; omega, by simp⟩ (decide_eq_true hk) hl s.byt
  have hsl : Sl8 h3 ba bc bs := ⟨s.ar.upd u3 nb, s.le, s.cap, s.nil, s.byt⟩
  have hw : IntKind.wrap .u32 (id : Int) = (id : Int) := by rw [wru32]; omega
  rw [hw]
  refine ld_of (c := .ptr) (some ⟨b, 0, none⟩) (by rw [cellH_blk (b0.upd u3 n0)]; rfl) (ldAgg_blk (z, p, g) (b2.upd u3 n2) ⟨rfl, rfl, rfl, trivial⟩ (ld_of (c := .int .i64) (nextZ D zn : Int) (by rw [cellH_blk b13]; rfl) (call_of (put_ok (by decide) P.gok g (nextZ D zn : Int) (kd, 0, (id : Int), 0) ⟨by simp; omega, by simp, by simp; omega, by simp⟩ ba bc bs h3 r3 hsl) ?_)))
  rintro v h4 ⟨e, l, rfl, _, t4, r4, f4⟩
  rw [hp] at r4 ⊢
  refine ⟨((log.length : Int) + 1, e), rfl, rfl, D', t4, P', r4, f4.blk b13 (by rw [t1]; decide), ?_, fun q hq => ?_, fun q hq h1 h2 => ?_⟩
  · exact Nat.le_trans u3.size f4.size
  · exact f4.tags q (Nat.lt_of_lt_of_le hq u3.size)
  · rw [f4.same q (Nat.lt_of_lt_of_le hq u3.size) h1, u3.same q hq h2]
end Go.Proofs.YthimfpkkdhpceaaDoor.Dir
