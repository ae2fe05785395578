/-
  Texts of this claim, one behind the other: ZnsP, WErrE, WFaultE, ErrE, Err2E, Err3E, Err4E, WIs, Err4I, ErrB, WCk, CkW, Zap, CkG, CkR, CkC, Rng, CkD, CkS, CkB, CkL, CkM, CkN, WSl.
-/
import Derived.Test.YthimfpkkdhpceaaGreatDoorP2
import Derived.Test.YthimfpkkdhpceaaGreatDoorProg
import Derived.Lib.AppendZerosOnto
/-
  The contracts of package zns.
-/
namespace Go.Proofs.YthimfpkkdhpceaaGreatDoor.ZnsP
open Go.Pl Go.Proofs.YthimfpkkdhpceaaGreatDoor.W Go.Proofs.YthimfpkkdhpceaaGreatDoor.Byts Go.Proofs.YthimfpkkdhpceaaGreatDoor.As Go.Proofs.YthimfpkkdhpceaaGreatDoor.Upto Go.Proofs.YthimfpkkdhpceaaGreatDoor.Zns
abbrev PD := DR LoP
abbrev PRep := DRep LoP
abbrev ptr (b : Nat) : Value := .pointer (some ⟨b, 0, none⟩)
theorem there_ok {k b : Nat} {t : Tags} {D : Dev} (n : Int) (h : Heap) (r : PRep k t h b D) : CallsH Tryz.prog 75 [ptr b, .int .i64 n] h fun v h' => v = .bool (D.there n) ∧ h' = h := by
  refine fun_ok hm' Tryz.func75 (by kernel_rfl) (F75_eq _ _ _ h) ?_
  unfold F75
  obtain ⟨za, c, arr, r⟩ := r
  refine br_of (fun h0 => ld_of (c := .slice) (some ⟨za, 0, none⟩, D.zs.length, c) r.cz ⟨?_, rfl⟩) fun h0 => ⟨?_, rfl⟩
  · have h0 := of_decide_eq_true h0
    unfold Dev.there; congr 1; simp; omega
  · have h0 := of_decide_eq_false h0
    unfold Dev.there; congr 1; symm; simp; omega
theorem zeroZ : zeroC Tryz.prog 121 = #[.int .i64 0, .bool false, .slice none 0 0] := by kernel_rfl
/-- A zone that is pointed at. -/
def AtZ (k : Nat) (t : Tags) (h : Heap) (p : Addr) (Z : Zn) : Prop := ∃ a c z, cellH h ((p.add 0).add 0) = some (.int .i64 (Z.sure : Int)) ∧ cellH h ((p.add 0).add 1) = some (.bool Z.fin) ∧ cellH h (p.add 2) = some (.slice a Z.pages.length c) ∧ PRow k z t h a c Z.pages
theorem at_ok {k b : Nat} {t : Tags} {D : Dev} (n : Int) (h : Heap) (r : PRep k t h b D) : CallsH Tryz.prog 91 [ptr b, .int .i64 n] h fun v h' => ∃ p, v = .pointer (some p) ∧ New h h' ∧ AtZ k t h' p (D.at_ n) := by
  refine fun_ok hm' Tryz.func91 (by kernel_rfl) (F91_eq _ _ _ h) ?_
  unfold F91
  refine call_of (there_ok n h r) ?_
  rintro v h' ⟨rfl, hh⟩; subst h'
  refine ⟨D.there n, rfl, ?_⟩
  cases ht : D.there n with
  | false =>
    refine br_t rfl (new_of fun h1 b1 n1 s1 => ⟨⟨h.size, 0, none⟩, rfl, n1, none, 0, 0, ?_, ?_, ?_, ?_⟩)
    · rw [at_none ht, add_mk, add_mk, cellH_blk b1]; rfl
    · rw [at_none ht, add_mk, add_mk, cellH_blk b1]; rfl
    · rw [at_none ht, add_mk, cellH_blk b1]; rfl
    · rw [at_none ht]; exact PRow.nil _ _ _ _
  | true =>
    obtain ⟨z, rfl, hz⟩ := there_nat ht
    obtain ⟨za, c, arr, r⟩ := r
    obtain ⟨a, d, hp, c0, c1, c2⟩ := r.zP hz
    refine br_f rfl (ld_of (c := .slice) (some ⟨za, 0, none⟩, D.zs.length, c) r.cz (ptr_of (ix_of hz ⟨⟨za, z * 3, none⟩, by rw [add_mk, Int.toNat_natCast, Nat.zero_add], New.refl h, a, d, z, ?_, ?_, ?_, ?_⟩)))
    · rw [at_of hz, add_mk, add_mk]; exact r.cell (j := 0) c0 _ rfl
    · rw [at_of hz, add_mk, add_mk]; exact r.cell c1 _ rfl
    · rw [at_of hz, add_mk]; exact r.cell c2 _ rfl
    · rw [at_of hz]; exact hp
theorem point_ok {k b : Nat} {t : Tags} {D : Dev} (n : Int) (h : Heap) (r : PRep k t h b D) : CallsH Tryz.prog 46 [ptr b, .int .i64 n] h fun v h' => v = .int .i64 (D.point n : Int) ∧ New h h' := by
  refine fun_ok hm' Tryz.func46 (by kernel_rfl) (F46_eq _ _ _ h) ?_
  unfold F46
  refine call_of (at_ok n h r) ?_
  rintro v h1 ⟨p, rfl, n1, a, c, z, c0, c1, c2, _⟩
  exact ⟨some p, rfl, ptr_of (ld_of (c := .slice) (a, (D.at_ n).pages.length, c) c2 ⟨rfl, n1⟩)⟩
theorem sure_ok {k b : Nat} {t : Tags} {D : Dev} (n : Int) (h : Heap) (r : PRep k t h b D) : CallsH Tryz.prog 48 [ptr b, .int .i64 n] h fun v h' => v = .int .i64 (D.sure n : Int) ∧ New h h' := by
  refine fun_ok hm' Tryz.func48 (by kernel_rfl) (F48_eq _ _ _ h) ?_
  unfold F48
  refine call_of (at_ok n h r) ?_
  rintro v h1 ⟨p, rfl, n1, a, c, z, c0, c1, c2, _⟩
  exact ⟨some p, rfl, ptr_of (ld_of (c := .int .i64) ((D.at_ n).sure : Int) c0 ⟨rfl, n1⟩)⟩
theorem state_ok {k b : Nat} {t : Tags} {D : Dev} (n : Int) (h : Heap) (r : PRep k t h b D) : CallsH Tryz.prog 81 [ptr b, .int .i64 n] h fun v h' => v = .int .i64 (D.state n) ∧ New h h' := by
  refine fun_ok hm' Tryz.func81 (by kernel_rfl) (F81_eq _ _ _ h) ?_
  unfold F81
  refine call_of (at_ok n h r) ?_
  rintro v h1 ⟨p, rfl, n1, a, c, z, c0, c1, c2, _⟩
  obtain ⟨za, d, arr, r1⟩ := r.new n1
  refine ⟨some p, rfl, ptr_of (ld_of (c := .slice) (a, (D.at_ n).pages.length, c) c2 (br_of (fun h0 => ⟨?_, n1⟩) fun h0 => ptr_of (ld_of (c := .bool) (D.at_ n).fin c1 (br_of (fun hf => ⟨?_, n1⟩) fun hf => ptr_of (ld_of (c := .slice) (a, (D.at_ n).pages.length, c) c2 (ld_of (c := .int .i64) (D.P : Int) r1.cP (br_of (fun hp => ⟨?_, n1⟩) fun hp => ⟨?_, n1⟩)))))))⟩
  · have h0 : (D.at_ n).pages.length = 0 := by simp only [beq_iff_eq] at h0; omega
    unfold Dev.state; rw [if_pos h0]
  · have h0 : ¬ (D.at_ n).pages.length = 0 := by simp only [beq_eq_false_iff_ne, ne_eq] at h0; omega
    unfold Dev.state; rw [if_neg h0, if_pos (.inl hf)]
  · have h0 : ¬ (D.at_ n).pages.length = 0 := by simp only [beq_eq_false_iff_ne, ne_eq] at h0; omega
    have hp : (D.at_ n).pages.length = D.P := by simp only [beq_iff_eq] at hp; omega
    unfold Dev.state; rw [if_neg h0, if_pos (.inr hp)]
  · have h0 : ¬ (D.at_ n).pages.length = 0 := by simp only [beq_eq_false_iff_ne, ne_eq] at h0; omega
    have hp : ¬ (D.at_ n).pages.length = D.P := by simp only [beq_eq_false_iff_ne, ne_eq] at hp; omega
    unfold Dev.state; rw [if_neg h0, if_neg (by simp [hf, hp])]
theorem zones_ok {k b : Nat} {t : Tags} {D : Dev} (h : Heap) (r : PRep k t h b D) : CallsH Tryz.prog 33 [ptr b] h fun v h' => v = .int .i64 (D.zs.length : Int) ∧ h' = h := by
  refine fun_ok hm' Tryz.func33 (by kernel_rfl) (F33_eq _ _ h) ?_
  unfold F33
  obtain ⟨za, c, arr, r⟩ := r
  exact ld_of (c := .slice) (some ⟨za, 0, none⟩, D.zs.length, c) r.cz ⟨rfl, rfl⟩
theorem pages_ok {k b : Nat} {t : Tags} {D : Dev} (h : Heap) (r : PRep k t h b D) : CallsH Tryz.prog 34 [ptr b] h fun v h' => v = .int .i64 (D.P : Int) ∧ h' = h := by
  refine fun_ok hm' Tryz.func34 (by kernel_rfl) (F34_eq _ _ h) ?_
  unfold F34
  obtain ⟨za, c, arr, r⟩ := r
  exact ld_of (c := .int .i64) (D.P : Int) r.cP ⟨rfl, rfl⟩
theorem down_ok {k b : Nat} {t : Tags} {D : Dev} (h : Heap) (r : PRep k t h b D) : CallsH Tryz.prog 45 [ptr b] h fun v h' => v = .bool D.down ∧ h' = h := by
  refine fun_ok hm' Tryz.func45 (by kernel_rfl) (F45_eq _ _ h) ?_
  unfold F45
  obtain ⟨za, c, arr, r⟩ := r
  exact ld_of (c := .bool) D.down r.cd ⟨rfl, rfl⟩
theorem ops_ok {k b : Nat} {t : Tags} {D : Dev} (h : Heap) (r : PRep k t h b D) : CallsH Tryz.prog 30 [ptr b] h fun v h' => v = .int .i64 D.ops ∧ h' = h := by
  refine fun_ok hm' Tryz.func30 (by kernel_rfl) (F30_eq _ _ h) ?_
  unfold F30
  obtain ⟨za, c, arr, r⟩ := r
  exact ld_of (c := .int .i64) D.ops r.co ⟨rfl, rfl⟩
theorem fuse_ok {k b : Nat} {t : Tags} {D : Dev} (n : Int) (h : Heap) (r : PRep k t h b D) : CallsH Tryz.prog 10 [ptr b, .int .i64 n] h fun v h' => v = .tuple #[] ∧ PRep k t h' b (D.setFuse n) ∧ Upd b h h' := by
  refine fun_ok hm' Tryz.func10 (by kernel_rfl) (F10_eq _ _ _ h) ?_
  unfold F10
  obtain ⟨za, c, arr, r⟩ := r
  rw [add_mk, mm2_max]
  refine st_blk r.blk (show 0 + 2 < 5 by omega) fun h1 b1 o1 => ⟨rfl, ⟨za, c, arr, r.setD rfl b1 o1.upd⟩, o1.upd⟩
/-- A call that isn't done. -/
theorem doing_no_ok {k b : Nat} {t : Tags} {D : Dev} (e : Int) (f : Value) (h : Heap) (r : PRep k t h b D) (hn : (D.doing e).2 ≠ 0) :
    CallsH Tryz.prog 76 [ptr b, .int .i64 e, f] h fun v h' => v = errV (D.doing e).2 ∧ PRep k t h' b (D.doing e).1 ∧ Upd b h h' := by
  refine fun_ok hm' Tryz.func76 (by kernel_rfl) (F76_eq _ _ _ _ h) ?_
  unfold F76
  obtain ⟨za, c, arr, r⟩ := r
  refine ld_of (c := .bool) D.down r.cd (br_of (fun hd => ?_) fun hd => br_of (fun he => ?_) fun he => ld_of (c := .int .i64) D.fuse r.cf (br_of (fun hf => ?_) fun hf => ?_))
  · have e1 : D.doing e = (D, 7) := by unfold Dev.doing; rw [if_pos hd]
    rw [e1]; exact ⟨rfl, ⟨za, c, arr, r⟩, Upd.refl _ _⟩
  · have he : e ≠ 0 := by simpa using he
    have e1 : D.doing e = (D, e) := by unfold Dev.doing; rw [if_neg (by simp [hd]), if_pos he]
    rw [e1]; exact ⟨(errV_ne he).symm, ⟨za, c, arr, r⟩, Upd.refl _ _⟩
  · have he : e = 0 := by simpa using he
    have hf : D.fuse = 0 := by simpa using hf
    have e1 : D.doing e = ({ D with down := true }, 7) := by unfold Dev.doing; rw [if_neg (by simp [hd]), if_neg (by simp [he]), if_pos hf]
    rw [e1, add_mk]
    exact st_blk r.blk (show 0 + 4 < 5 by omega) fun h1 b1 o1 => ⟨rfl, ⟨za, c, arr, r.setD rfl b1 o1.upd⟩, o1.upd⟩
  · exfalso; apply hn
    have he : e = 0 := by simpa using he
    have hf : D.fuse ≠ 0 := by simpa using hf
    unfold Dev.doing; rw [if_neg (by simp [hd]), if_neg (by simp [he]), if_neg hf]
/-- A call that is done: what does it, is run. -/
theorem doing_yes {k b za c : Nat} {t : Tags} {arr : Array Value} {D : Dev} (o : DevOk D) (e : Int) (g : FuncId) (first cap : Array Value) (h : Heap) (r : PD k t h b za c arr D) (h0 : (D.doing e).2 = 0) {R : Value → Heap → Prop}
    (hc : ∀ h', PD k t h' b za c arr (D.doing e).1 → Upd b h h' → h'.size = h.size → CallsH Tryz.prog g (first.toList ++ [] ++ cap.toList) h' R) :
    CallsH Tryz.prog 76 [ptr b, .int .i64 e, .func (.func g) first cap] h fun v h' => v = .nilIface ∧ ∃ u, R u h' := by
  obtain ⟨rfl, hd, hf, e1⟩ := doing_ok h0
  refine fun_ok hm' Tryz.func76 (by kernel_rfl) (F76_eq _ _ _ _ h) ?_
  unfold F76
  have ho := o.fuse
  refine ld_of (c := .bool) D.down r.cd (br_f hd (br_f rfl (ld_of (c := .int .i64) D.fuse r.cf (br_f (by simpa using hf) (ld_of (c := .int .i64) D.fuse r.cf ?_)))))
  rw [mm2_max, wr64 (by omega) (by omega), add_mk]
  refine st_blk r.blk (show 0 + 2 < 5 by omega) fun h1 b1 o1 => ?_
  have r1 : PD k t h1 b za c arr { D with fuse := max (D.fuse - 1) (-1) } := r.setD rfl b1 o1.upd
  refine ld_of (c := .int .i64) D.ops r1.co ?_
  rw [add_mk]
  refine st_blk r1.blk (show 0 + 3 < 5 by omega) fun h2 b2 o2 => ?_
  have r2 : PD k t h2 b za c arr (D.doing 0).1 := by rw [e1]; exact r1.setD rfl b2 o2.upd
  refine callW_of (hc h2 r2 (o1.upd.trans o2.upd) (by rw [o2.size, o1.size])) ?_
  rintro v h3 hR
  exact ⟨v, rfl, rfl, v, hR⟩
theorem appendF_ok {k b za c z : Nat} {t : Tags} {arr : Array Value} {D : Dev} (o : DevOk D) (p1 p2 p3 : Nat) (T1 T2 T3 : TypeId) (ba : Option Addr) (bc : Nat) (bs : List Int) (h : Heap) (r : PD k t h b za c arr D) (hz : z < D.zs.length) (hl : bs.length ≤ 1000)
    (b1 : Blk h p1 #[ptr b] T1) (b2 : Blk h p2 #[.int .i64 (z : Int)] T2) (b3 : Blk h p3 #[.slice ba bs.length bc] T3) (ht1 : (t p1).1 = 0) (ht2 : (t p2).1 = 0) (ar : Ar .u8 h ba bs) :
    CallsH Tryz.prog 82 [ptr p1, ptr p2, ptr p3] h fun v h' => v = .tuple #[] ∧ ∃ t', PRep k t' h' b (D.setZ (z : Int) { D.at_ (z : Int) with pages := (D.at_ (z : Int)).pages ++ [bs] }) ∧ Fr (fun p => p.1 ≠ k) t h t' h' := by
  refine fun_ok hm' Tryz.func82 (by kernel_rfl) (F82_eq _ _ _ _ h) ?_
  unfold F82
  obtain ⟨a, d, hp, c0, c1, c2⟩ := r.zP hz
  have hk := r.own
  have e1 : cellH h ⟨p1, 0, none⟩ = some (ptr b) := by rw [cellH_blk b1]; rfl
  have e2 : cellH h ⟨p2, 0, none⟩ = some (.int .i64 (z : Int)) := by rw [cellH_blk b2]; rfl
  have e3 : cellH h ⟨p3, 0, none⟩ = some (.slice ba bs.length bc) := by rw [cellH_blk b3]; rfl
  refine ld_of (c := .ptr) (some ⟨b, 0, none⟩) e1 (ptr_of (ld_of (c := .slice) (some ⟨za, 0, none⟩, D.zs.length, c) r.cz (ld_of (c := .int .i64) (z : Int) e2 (ld_of (c := .ptr) (some ⟨b, 0, none⟩) e1 (ptr_of (ld_of (c := .slice) (some ⟨za, 0, none⟩, D.zs.length, c) r.cz (ld_of (c := .int .i64) (z : Int) e2 (ptr_of (ix_of hz ?_)))))))))
  refine ld_of (c := .slice) (a, D.zs[z].pages.length, d) (by rw [add_mk, add_mk, Int.toNat_natCast]; exact r.cell c2 _ (by omega)) (ld_of (c := .slice) (ba, bs.length, bc) e3 (call_of (Head.clone_ok ba bc bs _ rfl h ar (by omega)) ?_))
  rintro v h1 ⟨a1, k1, rfl, g1⟩
  refine ⟨(a1, bs.length, k1), rfl, ?_, g1.new.ext⟩
  have s1 : Fr (fun p => p.1 ≠ k) t h (lay t h.size (0, 0)) h1 := Fr.lay g1.new _
  have r1 : PD k (lay t h.size (0, 0)) h1 b za c arr D := r.fr (S := fun _ => True) (Fr.lay g1.new _) (fun _ _ => trivial) fun _ => trivial
  have hp1 : PRow k z (lay t h.size (0, 0)) h1 a d D.zs[z].pages := hp.fr (S := fun _ => True) (Fr.lay g1.new _) (fun _ _ => trivial) trivial
  refine PRow.push hp1 hk (Im.got g1 (0, 0) rfl) ⟨g1.row.le, g1.row.capMax, fun e => by subst e; exact g1.row.none0.2.1⟩ (by have := o.len hz; omega) fun a2 c2' h2 t2 f2 hp2 => ?_
  have hS : ∀ q : Nat × Nat, q.1 = 0 → q ≠ (k, 2 + z) := fun q hq e => by subst e; exact hk hq
  have f02 : Fr (fun q => q ≠ (k, 2 + z)) t h t2 h2 := (Fr.lay g1.new _).trans f2
  have zb : ∀ p : Nat, (t p).1 = 0 → t p ≠ (k, 2 + z) := fun p hp => hS _ hp
  have b1' := f02.blk b1 (zb _ ht1); have b2' := f02.blk b2 (zb _ ht2)
  have bD := f02.blk r.blk (by rw [r.tagB]; exact tagne (by omega))
  have bZ := f02.blk r.zblk (by rw [r.tagZ]; exact tagne (by omega))
  refine ⟨by rw [cellH_blk b2']; rfl, by rw [add_mk, cellH_blk bD]; rfl, by rw [cellH_blk b1']; rfl, ptr_of (ix_of hz ?_)⟩
  have hsz := r.size; have hle := r.le
  rw [add_mk, add_mk, Int.toNat_natCast, Nat.zero_add]
  refine st_blk bZ (by omega) fun h3 b3' o3 => ?_
  obtain ⟨q1, q2, q3, q4⟩ := set3 (arr := arr) (z := z) (o := 2) (n := z * 3 + 2) (v := .slice a2 (D.zs[z].pages.length + 1) c2') (by omega) (by omega) rfl
  have f23 : Fr (fun q => q ≠ (k, 1)) t2 h2 t2 h3 := Fr.upd o3.upd fun hn => hn (by rw [f02.tags za r.zblk.lt]; exact r.tagZ)
  have hS' : ∀ q : Nat × Nat, q.1 = 0 → q ≠ (k, 1) := fun q hq e => by subst e; exact hk hq
  have f03 : Fr (fun q => q ≠ (k, 1) ∧ q ≠ (k, 2 + z)) t h t2 h3 := (f02.mono fun _ hq => hq.2).trans (f23.mono fun _ hq => hq.1)
  refine ⟨rfl, t2, ⟨za, c, arr.setIfInBounds (z * 3 + 2) (.slice a2 (D.zs[z].pages.length + 1) c2'), ?_⟩, f03.mono fun q hq => ⟨fun e => hq (by rw [e]), fun e => hq (by rw [e])⟩⟩
  have := r.put (Z := { D.zs[z] with pages := D.zs[z].pages ++ [bs] }) f03 (fun q hq => ⟨hS' q hq, hS q hq⟩) ⟨tagne (by omega), tagne (by omega)⟩ (fun j hj => ⟨tagne (by omega), tagne (by omega)⟩) b3' q1 q2 ⟨a2, c2', fun j hj => ?_, ?_⟩
  · have e : D.setZ (z : Int) { D.at_ (z : Int) with pages := (D.at_ (z : Int)).pages ++ [bs] } = { D with zs := D.zs.set z { D.zs[z] with pages := D.zs[z].pages ++ [bs] } } := by
      rw [at_of hz]; unfold Dev.setZ; rw [Int.toNat_natCast]
    rw [e]; exact this
  · match j, hj with
    | 0, _ => rw [q4 0 (by omega) (by omega)]; exact c0
    | 1, _ => rw [q4 1 (by omega) (by omega)]; exact c1
    | 2, _ => rw [q3]; simp [LoP]
  · exact hp2.fr f23 hS' (tagne (by omega))
/-- What a call answers: an error, or none; the device behind it, its blocks alone turned. -/
def Acted (k : Nat) (t : Tags) (h : Heap) (b : Nat) (D' : Dev) (h' : Heap) : Prop := ∃ t', PRep k t' h' b D' ∧ Fr (fun p => p.1 ≠ k) t h t' h'
theorem Acted.of_upd {k b : Nat} {t : Tags} {h h' : Heap} {D' : Dev} {D : Dev} (r0 : PRep k t h b D) (r : PRep k t h' b D') (u : Upd b h h') : Acted k t h b D' h' := by
  obtain ⟨za, c, arr, r0⟩ := r0
  exact ⟨t, r, Fr.upd u fun hn => hn (by rw [r0.tagB])⟩
theorem Acted.before {k b : Nat} {t : Tags} {h0 h h' : Heap} {D' : Dev} (a : Acted k (lay t h0.size (0, 0)) h b D' h') (n : New h0 h) : Acted k t h0 b D' h' := by
  obtain ⟨t', r, f⟩ := a
  exact ⟨t', r, (Fr.lay n (0, 0)).trans f⟩
theorem PRep.lay {k b : Nat} {t : Tags} {h h' : Heap} {D : Dev} (r : PRep k t h b D) (n : New h h') : PRep k (Pl.lay t h.size (0, 0)) h' b D := r.fr (S := fun _ => True) (Fr.lay n _) (fun _ _ => trivial) fun _ => trivial
theorem append_ok {k b : Nat} {t : Tags} {D : Dev} (o : DevOk D) (n : Int) (ba : Option Addr) (bc : Nat) (bs : List Int) (h : Heap) (r : PRep k t h b D) (hl : bs.length ≤ 1000) (im : Im .u8 t h ba bs) :
    CallsH Tryz.prog 38 [ptr b, .int .i64 n, .slice ba bs.length bc] h fun v h' => v = .tuple #[.int .i64 ((D.append n bs).2.1), errV (D.append n bs).2.2] ∧ Acted k t h b (D.append n bs).1 h' := by
  refine fun_ok hm' Tryz.func38 (by kernel_rfl) (F38_eq _ _ _ _ _ _ h) ?_
  unfold F38
  refine new_of fun h1 b1 n1 s1 => new_of fun h2 b2 n2 s2 => new_of fun h3 b3 n3 s3 => ?_
  have n03 := (n1.trans n2).trans n3
  have b1 := (b1.new n2).new n3
  have b2 := b2.new n3
  have r3 := r.lay n03
  have e1 : ∀ {h' : Heap}, New h3 h' → cellH h' ⟨h.size, 0, none⟩ = some (ptr b) := fun n => by rw [cellH_blk (b1.new n)]; rfl
  have e2 : ∀ {h' : Heap}, New h3 h' → cellH h' ⟨h1.size, 0, none⟩ = some (.int .i64 n) := fun n => by rw [cellH_blk (b2.new n)]; rfl
  have e3 : ∀ {h' : Heap}, New h3 h' → cellH h' ⟨h2.size, 0, none⟩ = some (.slice ba bs.length bc) := fun n => by rw [cellH_blk (b3.new n)]; rfl
  refine cut_q (ts := [.sc (.int .i64)]) (fun (e : Int) h' => e = D.appendE n bs ∧ New h3 h') ?_ ?_
  rotate_left
  · intro K hK
    refine cut_q (ts := [.sc .bool]) (fun (s : Bool) h' => s = decide (D.there n = false ∨ bs.length ≠ 33) ∧ h' = h3) ?_ ?_
    · rintro s h' ⟨rfl, hh⟩ _; subst h'
      refine br_of (fun hs => hK _ _ ⟨?_, New.refl _⟩) fun hs => ?_
      · unfold Dev.appendE; rw [if_pos (of_decide_eq_true hs)]
      have hs := of_decide_eq_false hs
      refine ld_of (c := .ptr) (some ⟨b, 0, none⟩) (e1 (New.refl _)) (ld_of (c := .int .i64) n (e2 (New.refl _)) (call_of (state_ok n h3 r3) ?_))
      rintro v h4 ⟨rfl, n4⟩
      refine ⟨D.state n, rfl, br_of (fun h5 => hK _ _ ⟨?_, n4⟩) fun h5 => hK _ _ ⟨?_, n4⟩⟩
      · unfold Dev.appendE; rw [if_neg hs, if_pos (by simpa using h5)]
      · unfold Dev.appendE; rw [if_neg hs, if_neg (by simpa using h5)]
    · intro K2 hK2
      refine ld_of (c := .ptr) (some ⟨b, 0, none⟩) (e1 (New.refl _)) (ld_of (c := .int .i64) n (e2 (New.refl _)) (call_of (there_ok n h3 r3) ?_))
      rintro v h' ⟨rfl, hh⟩; subst h'
      refine ⟨D.there n, rfl, ?_⟩
      cases ht : D.there n with
      | false => exact br_t rfl (hK2 _ _ ⟨by simp [ht], rfl⟩)
      | true =>
        refine br_f rfl (ld_of (c := .slice) (ba, bs.length, bc) (e3 (New.refl _)) (hK2 _ _ ⟨?_, rfl⟩))
        rw [Bool.eq_iff_iff]; simp [ht]; omega
  rintro e h4 ⟨he, n4⟩ _
  have he : e = D.appendE n bs := he
  subst he
  refine ld_of (c := .ptr) (some ⟨b, 0, none⟩) (e1 n4) (ld_of (c := .int .i64) n (e2 n4) (call_of (point_ok n h4 (r3.new n4)) ?_))
  rintro v h5 ⟨rfl, n5⟩
  have n35 := n4.trans n5
  have n05 := n03.trans n35
  have r5 : PRep k (lay t h.size (0, 0)) h5 b D := r3.new n35
  refine ⟨(D.point n : Int), rfl, ld_of (c := .ptr) (some ⟨b, 0, none⟩) (e1 n35) ?_⟩
  by_cases h0 : (D.doing (D.appendE n bs)).2 = 0
  · have hE := (doing_ok h0).1
    have ea : D.append n bs = ((D.doing (D.appendE n bs)).1.setZ n { D.at_ n with pages := (D.at_ n).pages ++ [bs] }, (D.point n : Int), 0) := by
      unfold Dev.append; simp only []; rw [if_neg (by simp [h0])]
    rw [ea]
    have ht : D.there n = true := by
      cases ht : D.there n with
      | true => rfl
      | false => unfold Dev.appendE at hE; rw [if_pos (.inl ht)] at hE; cases hE
    obtain ⟨z, rfl, hz⟩ := there_nat ht
    obtain ⟨za, c, arr, r5'⟩ := r5
    have hn := fun (g : Nat) (hg : h.size ≤ g) => (lay_ge (t := t) (p := ((0, 0) : Nat × Nat)) hg)
    have sz1 := n1.size; have sz2 := n2.size
    have ne : ∀ g : Nat, h.size ≤ g → g ≠ b := fun g hg e => by have := hn g hg; rw [e, r5'.tagB] at this; exact r5'.own (Prod.mk.inj this).1
    refine call_of (doing_yes o _ 82 #[] #[ptr h.size, ptr h1.size, ptr h2.size] h5 r5' h0 (R := fun v h' => v = .tuple #[] ∧ Acted k (lay t h.size (0, 0)) h5 b ((D.doing (D.appendE (z : Int) bs)).1.setZ (z : Int) { D.at_ (z : Int) with pages := (D.at_ (z : Int)).pages ++ [bs] }) h') fun h6 r6 u6 z6 => ?_) ?_
    · have hz6 : z < (D.doing (D.appendE (z : Int) bs)).1.zs.length := by rw [doing_zs]; exact hz
      have at6 : (D.doing (D.appendE (z : Int) bs)).1.at_ (z : Int) = D.at_ (z : Int) := by rw [at_of hz6, at_of hz]; simp only [doing_zs]
      have := appendF_ok (o.doing _) h.size h1.size h2.size _ _ _ ba bc bs h6 r6 hz6 hl ((b1.new n35).upd u6 (ne _ (Nat.le_refl _))) ((b2.new n35).upd u6 (ne _ (by omega))) ((b3.new n35).upd u6 (ne _ (by omega))) (by rw [hn _ (Nat.le_refl _)]) (by rw [hn _ (by omega)]) (fun i x hx => ?_)
      · rw [at6] at this
        refine this.mono fun v h' ⟨hv, t', r', f'⟩ => ⟨hv, t', r', ?_⟩
        exact (Fr.upd u6 fun hh => hh (by rw [r5'.tagB])).trans f'
      · obtain ⟨g, o', eq, hg, hc⟩ := im.ar i x hx
        have hb := im.im (fun e => by subst e; simp at hx) g (by rw [eq]; rfl)
        refine ⟨g, o', eq, by have := n05.size; omega, ?_⟩
        by_cases eb : g = b
        · have := r5'.tagB
          rw [← eb, lay_lt hg] at this
          rw [this] at hb; exact (r5'.own hb).elim
        · rw [cellH_same (u6.same g (by have := n05.size; omega) eb), cellH_same (n05.same g hg)]; exact hc
    rintro v h7 ⟨rfl, u, hu, ac⟩
    exact ⟨.nilIface, rfl, errV_if 0, br_f rfl ⟨rfl, ac.before n05⟩⟩
  · have ea : D.append n bs = ((D.doing (D.appendE n bs)).1, 0, (D.doing (D.appendE n bs)).2) := by unfold Dev.append; simp only []; rw [if_pos h0]
    rw [ea]
    refine call_of (doing_no_ok _ _ h5 r5 h0) ?_
    rintro v h6 ⟨rfl, r6, u6⟩
    exact ⟨errV (D.doing (D.appendE n bs)).2, rfl, errV_if _, br_t (by rw [errV_nil]; simp [h0]) ⟨rfl, (Acted.of_upd r5 r6 u6).before n05⟩⟩
theorem readE {D : Dev} {n p : Int} (hd : D.down = false) (h1 : ¬ (D.there n = false ∨ p < 0 ∨ p ≥ D.P)) : D.read n p = if p ≥ (D.at_ n).pages.length then ([], 8) else if ((D.at_ n).pages.getD p.toNat []).length = 0 then ([], 6) else ((D.at_ n).pages.getD p.toNat [], 0) := by
  unfold Dev.read; rw [if_neg (by simp [hd]), if_neg h1]
theorem read_ok {k b : Nat} {t : Tags} {D : Dev} (o : DevOk D) (n p : Int) (h : Heap) (r : PRep k t h b D) :
    CallsH Tryz.prog 50 [ptr b, .int .i64 n, .int .i64 p] h fun v h' => ∃ a c, v = .tuple #[.slice a (D.read n p).1.length c, errV (D.read n p).2] ∧ Got .u8 5 h h' a c (D.read n p).1 := by
  refine fun_ok hm' Tryz.func50 (by kernel_rfl) (F50_eq _ _ _ _ h) ?_
  unfold F50
  refine call_of (at_ok n h r) ?_
  rintro v h1 ⟨q, rfl, n1, a, c, z, c0, c1, c2, hp⟩
  refine ⟨some q, rfl, ?_⟩
  have r1 := r.new n1
  have r1' := r1
  obtain ⟨za, d, arr, r2⟩ := r1'
  refine cut_q (ts := []) (fun _ h' => h' = h1 ∧ ∃ i : Nat, p = i ∧ i < (D.at_ n).pages.length ∧ ((D.at_ n).pages.getD i []).length ≠ 0 ∧ D.read n p = ((D.at_ n).pages.getD i [], 0)) ?_ ?_
  rotate_left
  · intro K hK
    refine ld_of (c := .bool) D.down r2.cd (br_of (fun hd => ?_) fun hd => ?_)
    · have e : D.read n p = ([], 7) := by unfold Dev.read; rw [if_pos hd]
      rw [e]; exact ⟨none, 0, rfl, Got.nil _ _ n1⟩
    refine cut_q (ts := [.sc .bool]) (fun (s : Bool) h' => s = decide (D.there n = false ∨ p < 0 ∨ p ≥ D.P) ∧ h' = h1) ?_ ?_
    · rintro s h' ⟨rfl, hh⟩ _; subst h'
      refine br_of (fun hs => ?_) fun hs => ?_
      · have e : D.read n p = ([], 1) := by unfold Dev.read; rw [if_neg (by simp [hd]), if_pos (of_decide_eq_true hs)]
        rw [e]; exact ⟨none, 0, rfl, Got.nil _ _ n1⟩
      have hs := of_decide_eq_false hs
      have e := readE hd hs
      refine ptr_of (ld_of (c := .slice) (a, (D.at_ n).pages.length, c) c2 (br_of (fun h0 => ?_) fun h0 => ?_))
      · rw [e, if_pos (of_decide_eq_true h0)]; exact ⟨none, 0, rfl, Got.nil _ _ n1⟩
      have h0 := of_decide_eq_false h0
      rw [if_neg h0] at e
      obtain ⟨i, rfl⟩ := Int.eq_ofNat_of_zero_le (show 0 ≤ p by omega)
      have hi : i < (D.at_ n).pages.length := by simp only [] at h0; omega
      rw [Int.toNat_natCast] at e
      have eg : (D.at_ n).pages.getD i [] = (D.at_ n).pages[i] := by simp [List.getD_eq_getElem?_getD, List.getElem?_eq_getElem hi]
      obtain ⟨a', c', im, ld⟩ := hp.ld hi
      refine ptr_of (ld_of (c := .slice) (a, (D.at_ n).pages.length, c) c2 (ld hi (br_of (fun h3 => ?_) fun h3 => hK () _ ⟨rfl, i, rfl, hi, ?_, ?_⟩)))
      · have h3 : ((D.at_ n).pages.getD i []).length = 0 := by rw [eg]; simp only [beq_iff_eq] at h3; omega
        rw [e, if_pos h3]; exact ⟨none, 0, rfl, Got.nil _ _ n1⟩
      · rw [eg]; simp only [beq_eq_false_iff_ne, ne_eq] at h3; omega
      · rw [e, if_neg (by rw [eg]; simp only [beq_eq_false_iff_ne, ne_eq] at h3; omega)]
    · intro K2 hK2
      refine call_of (there_ok n h1 r1) ?_
      rintro v h' ⟨rfl, hh⟩; subst h'
      refine ⟨D.there n, rfl, ?_⟩
      cases ht : D.there n with
      | false => exact br_t rfl (hK2 _ _ ⟨by simp [ht], rfl⟩)
      | true =>
        refine br_f rfl (br_of (fun h0 => hK2 _ _ ⟨?_, rfl⟩) fun h0 => ld_of (c := .int .i64) (D.P : Int) r2.cP (hK2 _ _ ⟨?_, rfl⟩))
        · have h0 := of_decide_eq_true h0
          symm; exact decide_eq_true (.inr (.inl h0))
        · have h0 := of_decide_eq_false h0
          rw [Bool.eq_iff_iff]; simp [ht]; omega
  rintro _ h' ⟨hh, i, rfl, hi, hne, e⟩ _; subst h'
  have eg : (D.at_ n).pages.getD i [] = (D.at_ n).pages[i] := by simp [List.getD_eq_getElem?_getD, List.getElem?_eq_getElem hi]
  rw [e, eg]
  obtain ⟨a', c', im, ld⟩ := hp.ld hi
  have hl : (D.at_ n).pages[i].length ≤ 100000 := by
    rcases ((o.at_ n).page _ (List.getElem_mem hi)).2 with h33 | h0
    · omega
    · rw [h0]; simp
  refine ptr_of (ld_of (c := .slice) (a, (D.at_ n).pages.length, c) c2 (ld hi (call_of (Head.clone_ok a' c' _ _ rfl h1 im.ar hl) ?_)))
  rintro v h2 ⟨a2, c2', rfl, g2⟩
  exact ⟨(a2, (D.at_ n).pages[i].length, c2'), rfl, a2, c2', rfl, g2.before n1⟩
/-- A zone of the program's device is another one: three cells are laid. -/
theorem resetF_ok {k b za c z : Nat} {t : Tags} {arr : Array Value} {D : Dev} (p1 p2 : Nat) (T1 T2 : TypeId) (h : Heap) (r : PD k t h b za c arr D) (hz : z < D.zs.length) (b1 : Blk h p1 #[ptr b] T1) (b2 : Blk h p2 #[.int .i64 (z : Int)] T2) :
    CallsH Tryz.prog 77 [ptr p1, ptr p2] h fun v h' => v = .tuple #[] ∧ Acted k t h b (D.setZ (z : Int) Zn.bare) h' := by
  refine fun_ok hm' Tryz.func77 (by kernel_rfl) (F77_eq _ _ _ h) ?_
  unfold F77
  have hk := r.own
  refine ld_of (c := .ptr) (some ⟨b, 0, none⟩) (by rw [cellH_blk b1]; rfl) (ptr_of (ld_of (c := .slice) (some ⟨za, 0, none⟩, D.zs.length, c) r.cz (ld_of (c := .int .i64) (z : Int) (by rw [cellH_blk b2]; rfl) (ptr_of (ix_of hz ?_)))))
  have hsz := r.size; have hle := r.le
  rw [add_mk, Int.toNat_natCast, Nat.zero_add]
  refine stL_blk r.zblk (by simp; omega) fun h1 b3 o3 => ⟨rfl, t, ⟨za, c, setsA arr (z * 3) [.int .i64 0, .bool false, .slice none 0 0], ?_⟩, Fr.upd o3.upd fun hn => hn (by rw [r.tagZ])⟩
  have hS : ∀ q : Nat × Nat, q.1 = 0 → q ≠ (k, 1) := fun q hq e => by subst e; exact hk hq
  have f : Fr (fun q => q ≠ (k, 1)) t h t h1 := Fr.upd o3.upd fun hn => hn r.tagZ
  have hin : ∀ j, j < 3 → (setsA arr (z * 3) [Value.int .i64 0, .bool false, .slice none 0 0])[z * 3 + j]? = ([Value.int .i64 0, .bool false, .slice none 0 0] : List Value)[j]? := fun j hj => by
    rw [setsA_get, if_pos ⟨by omega, by simp; omega, by omega⟩]; congr 1; omega
  have := r.put (Z := Zn.bare) f hS (tagne (by omega)) (fun j hj => tagne (by omega)) b3 (setsA_size ..) (fun i hi => by rw [setsA_get, if_neg (by simp; omega)]) ⟨none, 0, hin, PRow.nil _ _ _ _⟩
  unfold Dev.setZ; rw [Int.toNat_natCast]; exact this
theorem reset_ok {k b : Nat} {t : Tags} {D : Dev} (o : DevOk D) (n : Int) (h : Heap) (r : PRep k t h b D) :
    CallsH Tryz.prog 36 [ptr b, .int .i64 n] h fun v h' => v = errV (D.reset n).2 ∧ Acted k t h b (D.reset n).1 h' := by
  refine fun_ok hm' Tryz.func36 (by kernel_rfl) (F36_eq _ _ _ h) ?_
  unfold F36
  refine new_of fun h1 b1 n1 s1 => new_of fun h2 b2 n2 s2 => ?_
  have n02 := n1.trans n2
  have b1 := b1.new n2
  have r2 := r.lay n02
  have e1 : cellH h2 ⟨h.size, 0, none⟩ = some (ptr b) := by rw [cellH_blk b1]; rfl
  refine ld_of (c := .ptr) (some ⟨b, 0, none⟩) e1 (ld_of (c := .int .i64) n (by rw [cellH_blk b2]; rfl) (call_of (there_ok n h2 r2) ?_))
  rintro v h' ⟨rfl, hh⟩; subst h'
  refine ⟨D.there n, rfl, ?_⟩
  have no : ∀ e : Int, D.resetE n = e → (D.doing e).2 ≠ 0 → CallsH Tryz.prog 76 [ptr b, .int .i64 e, .func (.func 77) #[] #[ptr h.size, ptr h1.size]] h2 fun v h' => v = errV (D.reset n).2 ∧ Acted k t h b (D.reset n).1 h' := by
    intro e he hne
    have er : D.reset n = D.doing e := by unfold Dev.reset; rw [he]; simp only []; rw [if_pos hne]
    refine (doing_no_ok e _ h2 r2 hne).mono ?_
    rintro v h3 ⟨rfl, r3, u3⟩
    rw [er]; exact ⟨rfl, (Acted.of_upd r2 r3 u3).before n02⟩
  cases ht : D.there n with
  | false =>
    have he : D.resetE n = 1 := by unfold Dev.resetE; rw [if_pos ht]
    refine br_t rfl (ld_of (c := .ptr) (some ⟨b, 0, none⟩) e1 (call_of (no 1 he (doing_no (by decide))) ?_))
    rintro v h3 hv
    exact ⟨v, rfl, hv⟩
  | true =>
    have he : D.resetE n = 0 := by unfold Dev.resetE; rw [if_neg (by simp [ht])]
    refine br_f rfl (ld_of (c := .ptr) (some ⟨b, 0, none⟩) e1 ?_)
    by_cases h0 : (D.doing 0).2 = 0
    · have er : D.reset n = ((D.doing 0).1.setZ n Zn.bare, 0) := by unfold Dev.reset; rw [he]; simp only []; rw [if_neg (by simp [h0])]
      obtain ⟨z, rfl, hz⟩ := there_nat ht
      obtain ⟨za, c, arr, r2'⟩ := r2
      have hn := fun (g : Nat) (hg : h.size ≤ g) => (lay_ge (t := t) (p := ((0, 0) : Nat × Nat)) hg)
      have sz1 := n1.size
      have ne : ∀ g : Nat, h.size ≤ g → g ≠ b := fun g hg e => by have := hn g hg; rw [e, r2'.tagB] at this; exact r2'.own (Prod.mk.inj this).1
      refine call_of (doing_yes o _ 77 #[] #[ptr h.size, ptr h1.size] h2 r2' h0 (R := fun v h' => v = .tuple #[] ∧ Acted k (lay t h.size (0, 0)) h2 b ((D.doing 0).1.setZ (z : Int) Zn.bare) h') fun h6 r6 u6 z6 => ?_) ?_
      · refine (resetF_ok h.size h1.size _ _ h6 r6 (by rw [doing_zs]; exact hz) (b1.upd u6 (ne _ (Nat.le_refl _))) (b2.upd u6 (ne _ (by omega)))).mono ?_
        rintro v h' ⟨hv, t', r', f'⟩
        exact ⟨hv, t', r', (Fr.upd u6 fun hh => hh (by rw [r2'.tagB])).trans f'⟩
      rintro v h7 ⟨rfl, u, hu, ac⟩
      rw [er]
      exact ⟨.nilIface, rfl, rfl, ac.before n02⟩
    · refine call_of (no 0 he h0) ?_
      rintro v h3 hv
      exact ⟨v, rfl, hv⟩
/- What goes through all zones. -/
def own1 (k : Nat) : Nat × Nat → Prop := fun q => q.1 ≠ k
/-- One cell of a zone is told anew: which one, by its place. -/
theorem PD.setSure {k b za c z : Nat} {t : Tags} {h h' : Heap} {arr : Array Value} {D : Dev} (r : PD k t h b za c arr D) (hz : z < D.zs.length) (u : Nat) (hb : Blk h' za (arr.setIfInBounds (z * 3) (.int .i64 (u : Int))) 121) (o : Only za h h') :
    PD k t h' b za c (arr.setIfInBounds (z * 3) (.int .i64 (u : Int))) { D with zs := D.zs.set z { D.zs[z] with sure := u } } := by
  obtain ⟨a, d, hp, c0, c1, c2⟩ := r.zP hz
  have hk := r.own
  have hsz := r.size; have hle := r.le
  have hS : ∀ q : Nat × Nat, q.1 = 0 → q ≠ (k, 1) := fun q hq e => by subst e; exact hk hq
  have f : Fr (fun q => q ≠ (k, 1)) t h t h' := Fr.upd o.upd fun hn => hn r.tagZ
  obtain ⟨q1, q2, q3, q4⟩ := set3 (arr := arr) (z := z) (o := 0) (n := z * 3) (v := .int .i64 (u : Int)) (by omega) (by omega) rfl
  refine r.put f hS (tagne (by omega)) (fun j hj => tagne (by omega)) hb q1 q2 ⟨a, d, fun j hj => ?_, hp.fr f hS (tagne (by omega))⟩
  match j, hj with
  | 0, _ => exact q3
  | 1, _ => rw [q4 1 (by omega) (by omega)]; exact c1
  | 2, _ => rw [q4 2 (by omega) (by omega)]; exact c2
theorem settle_ok {k b : Nat} {t : Tags} {D : Dev} (o : DevOk D) (h : Heap) (r : PRep k t h b D) : CallsH Tryz.prog 61 [ptr b] h fun v h' => v = .tuple #[] ∧ PRep k t h' b D.settle ∧ Fr (own1 k) t h t h' := by
  refine fun_ok hm' Tryz.func61 (by kernel_rfl) (F61_eq _ _ h) ?_
  unfold F61
  obtain ⟨za, c, arr, r⟩ := r
  have hzn := o.zones
  refine ld_of (c := .slice) (some ⟨za, 0, none⟩, D.zs.length, c) r.cz ?_
  refine ⟨fun (s : Int) h' => ∃ (i : Nat) (arr' : Array Value), s = i ∧ i ≤ D.zs.length ∧ PD k t h' b za c arr' { D with zs := upto (fun _ Z => Z.settle) i D.zs } ∧ Fr (own1 k) t h t h', fun (s : Int) _ => ((D.zs.length : Int) - s).toNat, ⟨0, arr, rfl, Nat.zero_le _, by rw [upto_zero]; exact r, Fr.refl _ _ _⟩, ?_⟩
  rintro s j h1 ⟨i, arr', rfl, hi, r1, f1⟩
  have hlen : (upto (fun _ (Z : Zn) => Z.settle) i D.zs).length = D.zs.length := upto_len ..
  refine br_of (fun hlt => ?_) (fun hlt => ?_)
  · have hlt : i < D.zs.length := by have := of_decide_eq_true hlt; simp only [] at this; omega
    have hlt' : i < (upto (fun _ (Z : Zn) => Z.settle) i D.zs).length := by omega
    have hz : (upto (fun _ (Z : Zn) => Z.settle) i D.zs)[i] = D.zs[i] := by
      have := upto_get (fun _ (Z : Zn) => Z.settle) D.zs (Nat.le_refl i)
      rw [List.getElem?_eq_getElem hlt', List.getElem?_eq_getElem hlt] at this
      exact Option.some.inj this
    obtain ⟨a, d, hp, c0, c1, c2⟩ := r1.zP (z := i) hlt'
    simp only [hz] at hp c0 c1 c2
    have hsz := r1.size; have hle := r.le
    refine ld_of (c := .slice) (some ⟨za, 0, none⟩, D.zs.length, c) (by have := r1.cz; simp only [hlen] at this; exact this) (ld_of (c := .slice) (some ⟨za, 0, none⟩, D.zs.length, c) (by have := r1.cz; simp only [hlen] at this; exact this) (ptr_of (ix_of hlt (ld_of (c := .slice) (a, D.zs[i].pages.length, d) ?_ (ptr_of (ix_of hlt ?_))))))
    · rw [add_mk, add_mk, Int.toNat_natCast]; exact r1.cell c2 _ (by omega)
    rw [add_mk, add_mk, add_mk, Int.toNat_natCast, Nat.zero_add, Nat.add_zero]
    refine st_blk r1.zblk (by omega) fun h2 b2 o2 => ?_
    have r2 := r1.setSure (z := i) hlt' _ b2 o2
    simp only [hz] at r2
    have e : (upto (fun _ (Z : Zn) => Z.settle) i D.zs).set i { D.zs[i] with sure := D.zs[i].pages.length } = upto (fun _ (Z : Zn) => Z.settle) (i + 1) D.zs := upto_set (fun _ (Z : Zn) => Z.settle) D.zs (List.getElem?_eq_getElem hlt)
    rw [e] at r2
    rw [wr64 (by omega) (by omega)]
    exact ⟨⟨i + 1, _, rfl, hlt, r2, f1.trans (Fr.upd o2.upd fun hn => hn (by rw [r1.tagZ]))⟩, (by first | omega | (dsimp only; omega) | (simp only []; omega))⟩
  · have hi : i = D.zs.length := by have := of_decide_eq_false hlt; simp only [] at this; omega
    subst hi
    refine ⟨rfl, ⟨za, c, arr', ?_⟩, f1⟩
    have e : upto (fun _ (Z : Zn) => Z.settle) D.zs.length D.zs = D.zs.map Zn.settle := by
      rw [upto_full]; apply List.ext_getElem?; intro j; simp [List.getElem?_mapIdx]
    rw [e] at r1; exact r1
theorem flush_ok {k b : Nat} {t : Tags} {D : Dev} (o : DevOk D) (h : Heap) (r : PRep k t h b D) :
    CallsH Tryz.prog 39 [ptr b] h fun v h' => v = errV D.flush.2 ∧ Acted k t h b D.flush.1 h' := by
  refine fun_ok hm' Tryz.func39 (by kernel_rfl) (F39_eq _ _ h) ?_
  unfold F39
  by_cases h0 : (D.doing 0).2 = 0
  · have er : D.flush = ((D.doing 0).1.settle, 0) := by unfold Dev.flush; simp only []; rw [if_neg (by simp [h0])]
    obtain ⟨za, c, arr, r'⟩ := r
    refine call_of (doing_yes o _ 61 #[ptr b] #[] h r' h0 (R := fun v h' => v = .tuple #[] ∧ Acted k t h b (D.doing 0).1.settle h') fun h6 r6 u6 z6 => ?_) ?_
    · refine (settle_ok (o.doing 0) h6 ⟨za, c, arr, r6⟩).mono ?_
      rintro v h7 ⟨rfl, r7, f7⟩
      exact ⟨rfl, t, r7, (Fr.upd u6 fun hh => hh (by rw [r'.tagB])).trans f7⟩
    rintro v h7 ⟨rfl, u, hu, ac⟩
    rw [er]
    exact ⟨.nilIface, rfl, rfl, ac⟩
  · have er : D.flush = D.doing 0 := by unfold Dev.flush; simp only []; rw [if_pos h0]
    refine call_of (doing_no_ok 0 _ h r h0) ?_
    rintro v h3 ⟨rfl, r3, u3⟩
    rw [er]
    exact ⟨_, rfl, rfl, Acted.of_upd r r3 u3⟩
/-- What a crash leaves of a zone, ahead of its being sure. -/
def crash1 (keep : List Int) (tear : List Bool) (i : Nat) (Z : Zn) : Zn := { Z with pages := Z.pages.take (Z.stay keep i) ++ (if Z.torn keep tear i = true then [[]] else []) }
theorem crash1_settle (keep : List Int) (tear : List Bool) (D : Dev) : ({ D with zs := D.zs.mapIdx (crash1 keep tear) } : Dev).settle = { D with zs := D.zs.mapIdx fun i Z => Z.crash keep tear i } := by
  unfold Dev.settle
  congr 1
  apply List.ext_getElem?; intro j
  simp only [List.getElem?_map, List.getElem?_mapIdx, Option.map_map]
  rfl
theorem crash1_ok {P : Nat} {Z : Zn} (o : ZnOk P Z) (keep : List Int) (tear : List Bool) (i : Nat) : ZnOk P (crash1 keep tear i Z) := by
  have c := o.crash keep tear i
  have hs := stay_le o keep i
  refine ⟨?_, c.most, c.page⟩
  show Z.sure ≤ (Z.pages.take (Z.stay keep i) ++ _).length
  rw [List.length_append, List.length_take]; omega
theorem crash1_len {P : Nat} {Z : Zn} (o : ZnOk P Z) (keep : List Int) (tear : List Bool) (i : Nat) : (crash1 keep tear i Z).pages.length ≤ P := (o.crash keep tear i).most
/-- Rows of bools that came in. -/
def Bo (h : Heap) (a : Option Addr) (xs : List Bool) : Prop := ∀ (i : Nat) (x : Bool), xs[i]? = some x → ∃ b o, a = some ⟨b, o, none⟩ ∧ b < h.size ∧ cellH h ⟨b, o + i, none⟩ = some (.bool x)
/-- Rows that stay, whatever owner k does. -/
structure Ins (t : Tags) (h : Heap) (ka : Option Addr) (keep : List Int) (ta : Option Addr) (tear : List Bool) : Prop where
  ak : Ar .i64 h ka keep
  bt : Bo h ta tear
  kt : keep ≠ [] → ∀ g, blkOf ka = some g → (t g).1 = 0
  tt : tear ≠ [] → ∀ g, blkOf ta = some g → (t g).1 = 0
theorem Ins.fr {S : Nat × Nat → Prop} {t t' : Tags} {h h' : Heap} {ka ta : Option Addr} {keep : List Int} {tear : List Bool} (r : Ins t h ka keep ta tear) (s : Fr S t h t' h') (hS : ∀ p : Nat × Nat, p.1 = 0 → S p) : Ins t' h' ka keep ta tear := by
  have i := (Im.mk r.ak r.kt).fr s hS
  refine ⟨i.ar, fun j x hx => ?_, i.im, fun hx g hg => ?_⟩
  · obtain ⟨b, o, e, hp, hc⟩ := r.bt j x hx
    have h0 := r.tt (fun e => by subst e; simp at hx) b (by rw [e]; rfl)
    exact ⟨b, o, e, Nat.lt_of_lt_of_le hp s.size, by rw [cellH_same (s.same b hp (hS _ h0))]; exact hc⟩
  · cases tear with
    | nil => exact (hx rfl).elim
    | cons x xs =>
      obtain ⟨b, o, e, hp, _⟩ := r.bt 0 x rfl
      have h0 := r.tt hx g hg
      subst e; injection hg with hg; change b = g at hg; subst hg
      rw [s.tags b hp]; exact h0
theorem crash_ok {k b : Nat} {t : Tags} {D : Dev} (o : DevOk D) (ka : Option Addr) (kc : Nat) (keep : List Int) (ta : Option Addr) (tc : Nat) (tear : List Bool) (h : Heap) (r : PRep k t h b D) (ins : Ins t h ka keep ta tear) (hw : ∀ x ∈ keep, -9223372036854775808 ≤ x ∧ x ≤ 9223372036854775807) :
    CallsH Tryz.prog 26 [ptr b, .slice ka keep.length kc, .slice ta tear.length tc] h fun v h' => v = .tuple #[] ∧ Acted k t h b (D.crash keep tear) h' := by
  refine fun_ok hm' Tryz.func26 (by kernel_rfl) (F26_eq _ _ _ _ _ _ _ _ h) ?_
  unfold F26
  obtain ⟨za, c, arr, r⟩ := r
  have hzn := o.zones
  have hk := r.own
  have own0 : ∀ p : Nat × Nat, p.1 = 0 → own1 k p := fun p hp e => hk (by rw [← e]; exact hp)
  refine ld_of (c := .slice) (some ⟨za, 0, none⟩, D.zs.length, c) r.cz ?_
  refine ⟨fun (s : Int) h' => ∃ (i : Nat) (arr' : Array Value) (t' : Tags), s = i ∧ i ≤ D.zs.length ∧ PD k t' h' b za c arr' { D with zs := upto (crash1 keep tear) i D.zs } ∧ Fr (own1 k) t h t' h', fun (s : Int) _ => ((D.zs.length : Int) - s).toNat, ⟨0, arr, t, rfl, Nat.zero_le _, by rw [upto_zero]; exact r, Fr.refl _ _ _⟩, ?_⟩
  rintro s j h1 ⟨i, arr', t1, rfl, hi, r1, f1⟩
  have hlen : (upto (crash1 keep tear) i D.zs).length = D.zs.length := upto_len ..
  have ins1 := ins.fr f1 own0
  refine br_of (fun hlt => ?_) (fun hlt => ?_)
  · have hlt : i < D.zs.length := by have := of_decide_eq_true hlt; simp only [] at this; omega
    have hlt' : i < (upto (crash1 keep tear) i D.zs).length := by omega
    have hz : (upto (crash1 keep tear) i D.zs)[i] = D.zs[i] := by
      have := upto_get (crash1 keep tear) D.zs (Nat.le_refl i)
      rw [List.getElem?_eq_getElem hlt', List.getElem?_eq_getElem hlt] at this
      exact Option.some.inj this
    obtain ⟨Z, hZ⟩ : ∃ Z, Z = D.zs[i] := ⟨_, rfl⟩
    have oZ : ZnOk D.P Z := by rw [hZ]; exact o.zone _ (List.getElem_mem hlt)
    have l16 : Z.pages.length ≤ 16 := by rw [hZ]; exact o.len hlt
    have hsure := oZ.sure
    have hst := stay_le oZ keep i
    obtain ⟨a, d, hp, c0, c1, c2⟩ := r1.zP (z := i) hlt'
    simp only [hz, ← hZ] at hp c0 c1 c2
    have hsz := r1.size; have hle := r.le
    have cs : cellH h1 (((⟨za, 0, none⟩ : Addr).add (Int.toNat (i : Int) * 3)).add 0 |>.add 0) = some (.int .i64 (Z.sure : Int)) := by rw [add_mk, add_mk, add_mk, Int.toNat_natCast]; exact r1.cell (j := 0) c0 _ (by omega)
    have cp : cellH h1 (((⟨za, 0, none⟩ : Addr).add (Int.toNat (i : Int) * 3)).add 2) = some (.slice a Z.pages.length d) := by rw [add_mk, add_mk, Int.toNat_natCast]; exact r1.cell c2 _ (by omega)
    refine ld_of (c := .slice) (some ⟨za, 0, none⟩, D.zs.length, c) (by have := r1.cz; simp only [hlen] at this; exact this) (ptr_of (ix_of hlt (ld_of (c := .int .i64) (Z.sure : Int) cs ?_)))
    refine cut_q (ts := [.sc (.int .i64)]) (fun (q : Int) h' => q = (Z.stay keep i : Int) ∧ h' = h1) ?_ ?_
    rotate_left
    · intro K hK
      refine br_of (fun h0 => ?_) fun h0 => ?_
      · have h0 : i < keep.length := by have := of_decide_eq_true h0; omega
        refine ix_ld ins1.ak h0 h0 (ld_of (c := .slice) (a, Z.pages.length, d) cp (ld_of (c := .int .i64) (Z.sure : Int) cs (hK _ _ ⟨?_, rfl⟩)))
        have es : Z.stay keep i = Z.sure + min keep[i].toNat (Z.pages.length - Z.sure) := by unfold Zn.stay; rw [List.getElem?_eq_getElem h0]
        rw [es, mm2_min, mm2_max]
        simp only []
        have hww := hw _ (List.getElem_mem h0)
        rw [wr64 (n := (Z.pages.length : Int) - (Z.sure : Int)) (by omega) (by omega), wr64 (by omega) (by omega)]
        omega
      · have h0 : keep.length ≤ i := by have := of_decide_eq_false h0; omega
        refine hK _ _ ⟨?_, rfl⟩
        unfold Zn.stay; rw [List.getElem?_eq_none h0]
    rintro q h' ⟨rfl, hh⟩ _; subst h'
    refine cut_q (ts := [.sc .bool]) (fun (q : Bool) h' => q = Z.torn keep tear i ∧ h' = h1) ?_ ?_
    rotate_left
    · intro K hK
      refine br_of (fun h0 => ?_) fun h0 => ?_
      · have h0 : i < tear.length := by have := of_decide_eq_true h0; omega
        obtain ⟨gb, go, eg, _, hc⟩ := ins1.bt i _ (List.getElem?_eq_getElem h0)
        subst eg
        have et : tear.getD i false = tear[i] := by simp [List.getD_eq_getElem?_getD, List.getElem?_eq_getElem h0]
        refine ptr_of (ix_of h0 (ld_of (c := .bool) tear[i] (by rw [add_mk, Int.toNat_natCast, Nat.mul_one]; exact hc) (br_of (fun hb => ld_of (c := .slice) (a, Z.pages.length, d) cp (hK _ _ ⟨?_, rfl⟩)) fun hb => hK _ _ ⟨?_, rfl⟩)))
        · unfold Zn.torn; rw [et, hb, Bool.true_and]; simp only []; rw [Bool.eq_iff_iff]; simp
        · unfold Zn.torn; rw [et, hb, Bool.false_and]
      · have h0 : tear.length ≤ i := by have := of_decide_eq_false h0; omega
        refine hK _ _ ⟨?_, rfl⟩
        unfold Zn.torn; rw [List.getD_eq_getElem?_getD, List.getElem?_eq_none h0]; rfl
    rintro q h' ⟨rfl, hh⟩ _; subst h'
    obtain ⟨m, hm⟩ : ∃ m, m = Z.stay keep i := ⟨_, rfl⟩
    rw [← hm] at hst ⊢
    have hd := hp.le
    refine ld_of (c := .slice) (a, Z.pages.length, d) cp ⟨⟨by omega, by omega, by omega, by simp only []; omega⟩, ?_⟩
    have esb : sliceBase a ((0 : Int)).toNat ((m : Int)).toNat 1 = a := sliceBase_zero a _
    have en : ((m : Int)).toNat - ((0 : Int)).toNat = m := by omega
    simp only [esb, en]
    rw [add_mk, add_mk, Int.toNat_natCast, Nat.zero_add]
    refine st_blk r1.zblk (by omega) fun h2 b2 o2 => ?_
    obtain ⟨q1, q2, q3, q4⟩ := set3 (arr := arr') (z := i) (o := 2) (n := i * 3 + 2) (v := .slice a m m) (by omega) (by omega) rfl
    have hS : ∀ q : Nat × Nat, q.1 = 0 → q ≠ (k, 1) := fun q hq e => by subst e; exact hk hq
    have f2 : Fr (fun q => q ≠ (k, 1)) t1 h1 t1 h2 := Fr.upd o2.upd fun hn => hn r1.tagZ
    have hml : (Z.pages.take m).length = m := by simp; omega
    have hpc := (hp.cut m hst.2).fr f2 hS (tagne (by omega))
    have r2 := r1.put (Z := { Z with pages := Z.pages.take m }) f2 hS (tagne (by omega)) (fun j hj => tagne (by omega)) b2 q1 q2 ⟨a, m, fun j hj => (by
      match j, hj with
      | 0, _ => rw [q4 0 (by omega) (by omega)]; exact c0
      | 1, _ => rw [q4 1 (by omega) (by omega)]; exact c1
      | 2, _ => rw [q3]; simp [LoP, hml]), hpc⟩
    have next : ∀ (x : Zn), crash1 keep tear i Z = x → (upto (crash1 keep tear) i D.zs).set i x = upto (crash1 keep tear) (i + 1) D.zs := by
      rintro x rfl
      rw [hZ]; exact upto_set (crash1 keep tear) D.zs (List.getElem?_eq_getElem hlt)
    have f02 : Fr (own1 k) t h t1 h2 := f1.trans (f2.mono fun q hq e => hq (by rw [e]))
    have wri : IntKind.wrap .i64 ((i : Int) + 1) = ((i + 1 : Nat) : Int) := by rw [wr64 (by omega) (by omega)]; omega
    rw [wri]
    refine br_of (fun ht => ?_) fun ht => ?_
    · have c2' : cellH h2 ⟨za, i * 3 + 2, none⟩ = some (.slice a m m) := by rw [cellH_blk b2]; exact q3
      refine ld_of (c := .slice) (a, m, m) c2' ?_
      have hpc' : PRow k i t1 h2 a m (Z.pages.take m) := hpc
      have := PRow.push (a' := none) (c' := 0) (p := []) hpc' hk (Im.nil ..) Cp.none (by omega) (F := fun b31 n32 c33 h34 => stW ⟨za, i * 3 + 2, none⟩ (.slice b31 n32 c33) (fun h35 => (∃ (i' : Nat) (arr' : Array Value) (t' : Tags), ((i + 1 : Nat) : Int) = i' ∧ i' ≤ D.zs.length ∧ PD k t' h35 b za c arr' { D with zs := upto (crash1 keep tear) i' D.zs } ∧ Fr (own1 k) t h t' h35) ∧ ((D.zs.length : Int) - ((i + 1 : Nat) : Int)).toNat < ((D.zs.length : Int) - (i : Int)).toNat) h34) ?_
      · rw [hml] at this; exact this
      intro a2 c2x h3 t3 f3 hp3
      have bZ := f3.blk b2 (by rw [r1.tagZ]; exact tagne (by omega))
      rw [hml]
      refine st_blk bZ (by rw [q1]; omega) fun h4 b4 o4 => ⟨⟨i + 1, (arr'.setIfInBounds (i * 3 + 2) (.slice a m m)).setIfInBounds (i * 3 + 2) (.slice a2 (m + 1) c2x), t3, rfl, hlt, ?_, ?_⟩, by omega⟩
      · obtain ⟨p1, p2, p3, p4⟩ := set3 (arr := arr'.setIfInBounds (i * 3 + 2) (.slice a m m)) (z := i) (o := 2) (n := i * 3 + 2) (v := .slice a2 (m + 1) c2x) (by omega) (by rw [q1]; omega) rfl
        have f4 : Fr (fun q => q ≠ (k, 1)) t3 h3 t3 h4 := Fr.upd o4.upd fun hn => hn (by rw [f3.tags za b2.lt]; exact r1.tagZ)
        have hS2 : ∀ q : Nat × Nat, q.1 = 0 → q ≠ (k, 2 + i) := fun q hq e => by subst e; exact hk hq
        have f24 : Fr (fun q => q ≠ (k, 1) ∧ q ≠ (k, 2 + i)) t1 h2 t3 h4 := (f3.mono fun _ hq => hq.2).trans (f4.mono fun _ hq => hq.1)
        have r4 := r2.put (Z := { Z with pages := Z.pages.take m ++ [[]] }) (z := i) f24 (fun q hq => ⟨hS q hq, hS2 q hq⟩) ⟨tagne (by omega), tagne (by omega)⟩ (fun j hj => ⟨tagne (by omega), tagne (by omega)⟩) b4 p1 p2 ⟨a2, c2x, fun j hj => (by
          match j, hj with
          | 0, _ => rw [p4 0 (by omega) (by omega), q4 0 (by omega) (by omega)]; exact c0
          | 1, _ => rw [p4 1 (by omega) (by omega), q4 1 (by omega) (by omega)]; exact c1
          | 2, _ => rw [p3]; simp [LoP, hml]), hp3.fr f4 hS (tagne (by omega))⟩
        simp only [List.set_set] at r4
        rw [next _ (by unfold crash1; rw [ht, if_pos rfl, ← hm])] at r4
        exact r4
      · refine f02.trans (Fr.trans (f3.mono fun q hq e => hq (by rw [e])) (Fr.upd o4.upd fun hn => hn (by rw [f3.tags za b2.lt, r1.tagZ])))
    · refine ⟨⟨i + 1, arr'.setIfInBounds (i * 3 + 2) (.slice a m m), t1, rfl, hlt, ?_, f02⟩, (by first | omega | (dsimp only; omega) | (simp only []; omega))⟩
      have r2' := r2
      rw [next _ (by unfold crash1; rw [ht, if_neg (by simp), List.append_nil, ← hm])] at r2'
      exact r2'
  · have hi : i = D.zs.length := by have := of_decide_eq_false hlt; simp only [] at this; omega
    subst hi
    rw [upto_full] at r1
    have o1 : DevOk { D with zs := D.zs.mapIdx (crash1 keep tear) } := by
      refine ⟨by simpa using o.zones, o.pages, o.fuse, fun Y hY => ?_⟩
      simp only [List.mem_mapIdx] at hY
      obtain ⟨i, hi, rfl⟩ := hY
      exact crash1_ok (o.zone _ (List.getElem_mem hi)) keep tear i
    refine call_of (settle_ok o1 h1 ⟨za, c, arr', r1⟩) ?_
    rintro v h2 ⟨rfl, ⟨za2, c2, arr2, r2⟩, f2⟩
    rw [crash1_settle] at r2
    refine ⟨(), rfl, ?_⟩
    rw [add_mk]
    refine st_blk r2.blk (show 0 + 4 < 5 by omega) fun h3 b3 o3 => ?_
    have r3 : PD k t1 h3 b za2 c2 arr2 { D with zs := D.zs.mapIdx fun i Z => Z.crash keep tear i, down := false } := r2.setD rfl b3 o3.upd
    rw [add_mk]
    refine st_blk r3.blk (show 0 + 2 < 5 by omega) fun h4 b4 o4 => ?_
    have r4 : PD k t1 h4 b za2 c2 arr2 (D.crash keep tear) := r3.setD rfl b4 o4.upd
    exact ⟨rfl, t1, ⟨za2, c2, arr2, r4⟩, (f1.trans f2).trans (Fr.upd (o3.upd.trans o4.upd) fun hn => hn (by rw [r2.tagB]))⟩
/- A NEW DEVICE. -/
theorem new_no (n p : Int) (h : Heap) (hn : ¬ ((1 ≤ n ∧ n ≤ 24) ∧ 1 ≤ p ∧ p ≤ 16)) : CallsH Tryz.prog 8 [.int .i64 n, .int .i64 p] h fun v h' => v = .tuple #[.pointer none, errV 1] ∧ h' = h := by
  refine fun_ok hm' Tryz.func8 (by kernel_rfl) (F8_eq _ _ _ h) ?_
  unfold F8
  refine cut_q (ts := []) (fun _ _ => False) (fun _ _ hf _ => hf.elim) ?_
  intro K hK
  refine br_of (fun _ => ⟨rfl, rfl⟩) fun h1 => br_of (fun _ => ⟨rfl, rfl⟩) fun h2 => br_of (fun _ => ⟨rfl, rfl⟩) fun h3 => br_of (fun _ => ⟨rfl, rfl⟩) fun h4 => ?_
  have h1 := of_decide_eq_false h1; have h2 := of_decide_eq_false h2; have h3 := of_decide_eq_false h3; have h4 := of_decide_eq_false h4
  exact (hn ⟨⟨by omega, by omega⟩, by omega, by omega⟩).elim
theorem sizeZ : sizeN Tryz.prog 121 = 3 := by kernel_rfl
theorem bytesZ : bytesN Tryz.prog 121 = 40 := by kernel_rfl
theorem zeros_get {P : Program} {e : TypeId} {n i : Nat} {z : Array Value} (hz : zeroC P e = z) (hs : z.size = 3) (hi : i < n * 3) : (zerosOf P e (n * 3))[i]? = z[i % 3]? := by
  unfold zerosOf
  rw [hz, hs, Array.getElem?_map, Array.getElem?_range, if_pos hi]
  have : i % 3 < z.size := by omega
  simp [this]
def NewDev (L : Lo) (k : Nat) (t : Tags) (h : Heap) (b : Nat) (D : Dev) (h' : Heap) : Prop := New h h' ∧ h.size ≤ b ∧ ∃ t', (∀ g, g < h.size → t' g = t g) ∧ DRep L k t' h' b D
theorem new_ok (k : Nat) (hk : k ≠ 0) (t : Tags) (n p : Nat) (h : Heap) (hn : 1 ≤ n ∧ n ≤ 24) (hp : 1 ≤ p ∧ p ≤ 16) : CallsH Tryz.prog 8 [.int .i64 (n : Int), .int .i64 (p : Int)] h fun v h' => ∃ b, v = .tuple #[ptr b, errV 0] ∧ NewDev LoP k t h b (Dev.empty n p) h' := by
  refine fun_ok hm' Tryz.func8 (by kernel_rfl) (F8_eq _ _ _ h) ?_
  unfold F8
  refine cut_q (ts := []) (fun _ h' => h' = h) ?_ ?_
  rotate_left
  · intro K hK
    exact br_f (decide_eq_false (by omega)) (br_f (decide_eq_false (by omega)) (br_f (decide_eq_false (by omega)) (br_f (decide_eq_false (by omega)) (hK () _ rfl))))
  rintro _ h' hh _; subst h'
  refine ⟨⟨by omega, by omega, by rw [bytesZ]; omega, by omega⟩, ?_⟩
  rw [Int.toNat_natCast, sizeZ]
  generalize hg : h.push (.cells (zerosOf Tryz.prog 121 (n * 3)) 121) = h1
  have b1 : Blk h1 h.size (zerosOf Tryz.prog 121 (n * 3)) 121 := by rw [← hg]; exact Blk.push ..
  have n1 : New h h1 := by rw [← hg]; exact New.push ..
  have s1 : h1.size = h.size + 1 := by rw [← hg]; simp
  refine new_of fun h2 b2 n2 s2 => ⟨h1.size, rfl, n1.trans n2, by omega, fun g => if g < h.size then t g else if g = h.size then (k, 1) else (k, 0), fun g hg => if_pos hg, h.size, n, zerosOf Tryz.prog 121 (n * 3), ?_⟩
  have hl : (Dev.empty n p).zs.length = n := by simp [Dev.empty]
  refine ⟨hk, ?_, ?_, b1.new n2, ?_, by simp [zerosOf], by rw [hl]; exact Nat.le_refl _, by simp [maxLen]; omega, fun z Z hz => ?_⟩
  · rw [hl]; exact b2
  · show (if h1.size < h.size then t h1.size else if h1.size = h.size then (k, 1) else (k, 0)) = (k, 0)
    rw [if_neg (by omega), if_neg (by omega)]
  · show (if h.size < h.size then t h.size else if h.size = h.size then (k, 1) else (k, 0)) = (k, 1)
    rw [if_neg (by omega), if_pos rfl]
  · have hzn : z < n := by have := (List.getElem?_eq_some_iff.1 hz).1; omega
    have : Z = Zn.bare := List.eq_of_mem_replicate (List.mem_of_getElem? hz)
    subst this
    refine ⟨none, 0, fun j hj => ?_, PRow.nil _ _ _ _⟩
    rw [zeros_get zeroZ rfl (by omega), show (z * 3 + j) % 3 = j by omega]
    match j, hj with
    | 0, _ => rfl
    | 1, _ => rfl
    | 2, _ => rfl
end Go.Proofs.YthimfpkkdhpceaaGreatDoor.ZnsP
/-
  The formulas of errors.As. Each formula checked by the kernel. Printed by a program of this repo.
-/
namespace Go.Proofs.YthimfpkkdhpceaaGreatDoor.W
open Go.Pl

-- function 31
set_option maxRecDepth 100000 in
def F31 (err_0 : Value) (target_1 : Value) (K : Value → Heap → Prop) (h0 : Heap) : Prop := (
  ifW err_0 (br (isNilV err_0)
  (K (.bool false) h0)
  (cutT [] (fun (K1 : Unit → Heap → Prop) h2 =>
  ifW target_1 (br (isNilV target_1)
  (False)
  (K1 () h2))) (fun (_s3 : Unit) _ h4 =>
  callT Tryz.prog 64 [target_1] [.agg [.ptr, .any, .int .u64]] (fun (r5 : ((Option Addr) × Value × Int)) h6 =>
  newW (.cells (zeroC Tryz.prog 126) 126) (fun a7 h8 =>
  oneC r5.2.1 (stLW a7 [.pointer r5.1, r5.2.1, .int .u64 r5.2.2] (fun h9 =>
  ldAggW [.ptr, .any, .int .u64] a7 (fun (x10 : (Option Addr) × Value × Int) =>
  callT Tryz.prog 65 [.agg #[.pointer x10.1, x10.2.1, .int .u64 x10.2.2]] [.sc .any] (fun (r11 : Value) h12 =>
  cutT [] (fun (K13 : Unit → Heap → Prop) h19 =>
  invW Tryz.prog (.sc (.int .u8)) r11 "Kind" [] (fun (x14 : Int) h15 =>
  br (x14 != (22 : Int))
  (False)
  (ldAggW [.ptr, .any, .int .u64] a7 (fun (x16 : (Option Addr) × Value × Int) =>
  callT Tryz.prog 66 [.agg #[.pointer x16.1, x16.2.1, .int .u64 x16.2.2]] [.sc .bool] (fun (r17 : Bool) h18 =>
  br r17
  (False)
  (K13 () h18)) h15) h15)) h19) (fun (_s20 : Unit) _ h21 =>
  invW Tryz.prog (.sc .any) r11 "Elem" [] (fun (x22 : Value) h23 =>
  cutT [] (fun (K24 : Unit → Heap → Prop) h30 =>
  invW Tryz.prog (.sc (.int .u8)) x22 "Kind" [] (fun (x25 : Int) h26 =>
  br (x25 != (20 : Int))
  (ldW .any (⟨0, 0, none⟩) (fun (x27 : Value) =>
  invW Tryz.prog (.sc .bool) x22 "Implements" [x27] (fun (x28 : Bool) h29 =>
  br (!x28)
  (False)
  (K24 () h29)) h26) h26)
  (K24 () h26)) h30) (fun (_s31 : Unit) _ h32 =>
  ldAggW [.ptr, .any, .int .u64] a7 (fun (x33 : (Option Addr) × Value × Int) =>
  callT Tryz.prog 67 [err_0, target_1, .agg #[.pointer x33.1, x33.2.1, .int .u64 x33.2.2], x22] [.sc .bool] (fun (r34 : Bool) h35 =>
  K (.bool r34) h35) h32) h32) h23) h21) h12) h9) h9) h8)) h6) h4) h0)))
set_option maxRecDepth 100000 in
theorem F31_eq (err_0 : Value) (target_1 : Value) (K : Value → Heap → Prop) (h0 : Heap) : funWE Tryz.prog 31 (.seq (.leaf) (.seq (.seq (.leaf) (.cond (.seq (.leaf) (.leaf)) (.leaf))) (.cut [] (.seq (.leaf) (.cond (.leaf) (.leaf))) (.seq (.leaf) (.seq (.leaf) (.cut [] (.seq (.leaf) (.cond (.leaf) (.leaf))) (.seq (.leaf) (.cut [] (.seq (.leaf) (.cond (.leaf) (.leaf))) (.seq (.leaf) (.leaf)))))))))) [err_0, target_1] K h0 = F31 err_0 target_1 K h0 := by kernel_rfl

-- function 67
set_option maxRecDepth 100000 in
def F67 (err_0 : Value) (target_1 : Value) (targetVal_2_0 : Option Addr) (targetVal_2_1 : Value) (targetVal_2_2 : Int) (targetType_3 : Value) (K : Value → Heap → Prop) (h0 : Heap) : Prop := (
  newW (.cells #[.pointer targetVal_2_0, targetVal_2_1, .int .u64 targetVal_2_2] 126) (fun a1 h2 =>
  loopT [.sc .any] (fun (s4 : Value) _ (K3 : Value → Heap → Prop) h5 =>
  callT Tryz.prog 106 [s4] [.sc .any] (fun (r6 : Value) h7 =>
  invW Tryz.prog (.sc .bool) r6 "AssignableTo" [targetType_3] (fun (x8 : Bool) h9 =>
  br x8
  (ldAggW [.ptr, .any, .int .u64] a1 (fun (x10 : (Option Addr) × Value × Int) =>
  callT Tryz.prog 108 [.agg #[.pointer x10.1, x10.2.1, .int .u64 x10.2.2]] [.agg [.ptr, .any, .int .u64]] (fun (r11 : ((Option Addr) × Value × Int)) h12 =>
  callT Tryz.prog 64 [s4] [.agg [.ptr, .any, .int .u64]] (fun (r13 : ((Option Addr) × Value × Int)) h14 =>
  callT Tryz.prog 109 [.agg #[.pointer r11.1, r11.2.1, .int .u64 r11.2.2], .agg #[.pointer r13.1, r13.2.1, .int .u64 r13.2.2]] [] (fun (_r15 : Unit) h16 =>
  K (.bool true) h16) h14) h12) h9) h9)
  (cutT [] (fun (K17 : Unit → Heap → Prop) h24 =>
  cutT [.sc .any, .sc .bool] (fun (K18 : (Value × Bool) → Heap → Prop) h19 =>
  asI Tryz.prog 175 s4
  (K18 (s4, true) h19)
  (K18 ((.nilIface : Value), false) h19)) (fun (s20 : Value × Bool) _ h21 =>
  br s20.2
  (invW Tryz.prog (.sc .bool) s20.1 "As" [target_1] (fun (x22 : Bool) h23 =>
  br x22
  (K (.bool true) h23)
  (K17 () h23)) h21)
  (K17 () h21)) h24) (fun (_s25 : Unit) _ h26 =>
  cutT [.sc .bool, .sc .any] (fun (K27 : (Bool × Value) → Heap → Prop) h28 =>
  asI Tryz.prog 178 s4
  (K27 (true, s4) h28)
  (K27 (false, (.nilIface : Value)) h28)) (fun (s29 : Bool × Value) _ h30 =>
  br s29.1
  (invW Tryz.prog (.sc .any) s29.2 "Unwrap" [] (fun (x31 : Value) h32 =>
  ifW x31 (br (isNilV x31)
  (K (.bool false) h32)
  (K3 x31 h32))) h30)
  (cutT [.sc .bool, .sc .any] (fun (K33 : (Bool × Value) → Heap → Prop) h34 =>
  asI Tryz.prog 179 s4
  (K33 (true, s4) h34)
  (K33 (false, (.nilIface : Value)) h34)) (fun (s35 : Bool × Value) _ h36 =>
  br s35.1
  (invW Tryz.prog (.sc .slice) s35.2 "Unwrap" [] (fun (x37 : Option Addr × Nat × Nat) h38 =>
  loopT [.sc (.int .i64)] (fun (s40 : Int) _ (K39 : Int → Heap → Prop) h41 =>
  br (decide (s40 < (((x37.2.1 : Nat) : Int))))
  (ptrW x37.1 (fun a42 =>
  idxW s40 x37.2.1 true (ldW .any (Addr.add a42 (Int.toNat s40 * 1)) (fun (x43 : Value) =>
  ifW x43 (br (isNilV x43)
  (K39 (IntKind.wrap .i64 (s40 + (1 : Int))) h41)
  (ldAggW [.ptr, .any, .int .u64] a1 (fun (x44 : (Option Addr) × Value × Int) =>
  callT Tryz.prog 67 [x43, target_1, .agg #[.pointer x44.1, x44.2.1, .int .u64 x44.2.2], targetType_3] [.sc .bool] (fun (r45 : Bool) h46 =>
  br r45
  (K (.bool true) h46)
  (K39 (IntKind.wrap .i64 (s40 + (1 : Int))) h46)) h41) h41))) h41)))
  (K (.bool false) h41)) (0 : Int) h38) h36)
  (K (.bool false) h36)) h30)) h26) h9)) h7) h5) err_0 h2) h0)
set_option maxRecDepth 100000 in
theorem F67_eq (err_0 : Value) (target_1 : Value) (targetVal_2_0 : Option Addr) (targetVal_2_1 : Value) (targetVal_2_2 : Int) (targetType_3 : Value) (K : Value → Heap → Prop) (h0 : Heap) : funWE Tryz.prog 67 (.seq (.leaf) (.block (.loop [(0, .sc .any)] (.block (.seq (.seq (.leaf) (.cond (.seq (.leaf) (.seq (.leaf) (.leaf))) (.leaf))) (.cut [] (.cut [(9, .sc .any), (10, .sc .bool)] (.leaf) (.seq (.leaf) (.cond (.seq (.leaf) (.leaf)) (.leaf)))) (.seq (.leaf) (.block (.cut [(38, .sc .bool), (39, .sc .any)] (.leaf) (.cond (.seq (.leaf) (.seq (.leaf) (.seq (.leaf) (.cond (.seq (.leaf) (.leaf)) (.leaf))))) (.cut [(45, .sc .bool), (46, .sc .any)] (.leaf) (.cond (.seq (.leaf) (.seq (.seq (.leaf) (.block (.loop [(50, .sc (.int .i64))] (.seq (.leaf) (.seq (.cond (.leaf) (.leaf)) (.seq (.block (.seq (.leaf) (.seq (.seq (.leaf) (.cond (.leaf) (.leaf))) (.seq (.leaf) (.cond (.seq (.leaf) (.leaf)) (.leaf)))))) (.leaf))))))) (.seq (.leaf) (.leaf)))) (.seq (.leaf) (.seq (.leaf) (.leaf))))))))))))))) [err_0, target_1, .agg #[.pointer targetVal_2_0, targetVal_2_1, .int .u64 targetVal_2_2], targetType_3] K h0 = F67 err_0 target_1 targetVal_2_0 targetVal_2_1 targetVal_2_2 targetType_3 K h0 := by kernel_rfl

end Go.Proofs.YthimfpkkdhpceaaGreatDoor.W
/-
  The formulas of package fault: Wrap and Unwrap. Each formula checked by the kernel. Printed by a program of this repo.
-/
namespace Go.Proofs.YthimfpkkdhpceaaGreatDoor.W
open Go.Pl

-- function 35
set_option maxRecDepth 100000 in
def F35 (op_0 : ByteArray) (at_1 : Int) (err_2 : Value) (K : Value → Heap → Prop) (h0 : Heap) : Prop := (
  cutT [] (fun (K1 : Unit → Heap → Prop) h7 =>
  ifW err_2 (br (isNilV err_2)
  (K (.nilIface) h7)
  (cutT [.sc .bool, .sc (.int .i64)] (fun (K2 : (Bool × Int) → Heap → Prop) h4 =>
  asW (.sc (.int .i64)) err_2 31 (fun (x3 : Int) =>
  K2 (true, x3) h4) (K2 (false, (0 : Int)) h4)) (fun (s5 : Bool × Int) _ h6 =>
  br s5.1
  (br (s5.2 == (0 : Int))
  (K (.nilIface) h6)
  (K1 () h6))
  (K1 () h6)) h7))) (fun (_s8 : Unit) _ h9 =>
  buildA Tryz.prog 147 [.str, .int .i64, .any] [(0, .string op_0), (1, .int .i64 at_1), (2, err_2)] (fun (x10 : ByteArray × Int × Value) =>
  newW (.cells #[.string x10.1, .int .i64 x10.2.1, x10.2.2] 147) (fun a11 h12 =>
  K (.iface 145 (.pointer (some a11))) h12) h9)) h0)
set_option maxRecDepth 100000 in
theorem F35_eq (op_0 : ByteArray) (at_1 : Int) (err_2 : Value) (K : Value → Heap → Prop) (h0 : Heap) : funWE Tryz.prog 35 (.seq (.leaf) (.cut [] (.seq (.leaf) (.block (.seq (.leaf) (.cond (.seq (.leaf) (.seq (.leaf) (.leaf))) (.cut [(12, .sc .bool), (13, .sc (.int .i64))] (.leaf) (.cond (.seq (.leaf) (.seq (.leaf) (.cond (.seq (.leaf) (.leaf)) (.leaf)))) (.leaf))))))) (.seq (.leaf) (.leaf)))) [.string op_0, .int .i64 at_1, err_2] K h0 = F35 op_0 at_1 err_2 K h0 := by kernel_rfl

-- function 146
set_option maxRecDepth 100000 in
def F146 (f_0 : Addr) (K : Value → Heap → Prop) (h0 : Heap) : Prop := (
  ldW .any (Addr.add f_0 2) (fun (x1 : Value) =>
  K (x1) h0) h0)
set_option maxRecDepth 100000 in
theorem F146_eq (f_0 : Addr) (K : Value → Heap → Prop) (h0 : Heap) : funWE Tryz.prog 146 (.seq (.leaf) (.seq (.leaf) (.leaf))) [.pointer (some f_0)] K h0 = F146 f_0 K h0 := by kernel_rfl

end Go.Proofs.YthimfpkkdhpceaaGreatDoor.W
/-
  errors.As and errors.Is over chains of faults (and plain codes); fault.Code, Is, Wrap, Trail, Place over them. errors.errorType must read as the program lays it.
-/
namespace Go.Proofs.YthimfpkkdhpceaaGreatDoor.Err
open Go.RowKit Go.Extern.Stop Go.Stop Go.Extern Go.Pl Go.Proofs.YthimfpkkdhpceaaGreatDoor.W Go.Proofs.YthimfpkkdhpceaaGreatDoor.As
theorem ext_at {f : FuncId} {fn : Func} {e : Array Value → Sem Value} (hf : Tryz.prog.funcs[f]? = some fn) (hname : (fn.name == "runtime.NumGoroutine") = false)
    (hb : fn.body.isNone = true) (hn : Extern.findNext fn = none) (he : Extern.find fn = some e) {args : Array Value} {w w' : World} {v : Value} (h : (e args).run Tryz.prog w = .ok v w') :
    (callFunc f args).run Tryz.prog w = .ok (.value v) w' := by rw [run_callFunc_extern hf hname hb hn he, h]; rfl
theorem mKind (x : Value) (w : World) : (Go.method (Tryz.prog.types.size + Made.depth) 171 (.agg #[x]) "Kind").run Tryz.prog w = .ok (138, x) w := by kernel_rfl
theorem mElem (x : Value) (w : World) : (Go.method (Tryz.prog.types.size + Made.depth) 171 (.agg #[x]) "Elem").run Tryz.prog w = .ok (150, .agg #[x]) w := by kernel_rfl
theorem mImpl (x : Value) (w : World) : (Go.method (Tryz.prog.types.size + Made.depth) 171 (.agg #[x]) "Implements").run Tryz.prog w = .ok (151, .agg #[x]) w := by kernel_rfl
theorem mAsg (x : Value) (w : World) : (Go.method (Tryz.prog.types.size + Made.depth) 171 (.agg #[x]) "AssignableTo").run Tryz.prog w = .ok (148, .agg #[x]) w := by kernel_rfl
theorem mCmp (x : Value) (w : World) : (Go.method (Tryz.prog.types.size + Made.depth) 171 (.agg #[x]) "Comparable").run Tryz.prog w = .ok (149, .agg #[x]) w := by kernel_rfl
theorem typeOfE' (v : Value) (w : World) : (ReflectliteType.typeOf #[.iface 31 v]).run Tryz.prog w = .ok (.iface 171 (.agg #[.pointer (some ⟨1, 31, none⟩)])) w := by kernel_rfl
theorem xTypeOfE (v : Value) (h : Heap) : extH Tryz.prog 106 [.iface 31 v] h fun v h' => v = .iface 171 (.agg #[.pointer (some ⟨1, 31, none⟩)]) ∧ h' = h := fun w hw => ⟨_, _, ext_at Tryz.func106 (by kernel_rfl) (by kernel_rfl) (by kernel_rfl) (show Extern.find _ = some (ReflectliteType.typeOf) by kernel_rfl) (typeOfE' v w), ⟨rfl, hw⟩, Rest.refl w⟩
theorem typeOfF' (v : Value) (w : World) : (ReflectliteType.typeOf #[.iface 145 v]).run Tryz.prog w = .ok (.iface 171 (.agg #[.pointer (some ⟨1, 145, none⟩)])) w := by kernel_rfl
theorem xTypeOfF (v : Value) (h : Heap) : extH Tryz.prog 106 [.iface 145 v] h fun v h' => v = .iface 171 (.agg #[.pointer (some ⟨1, 145, none⟩)]) ∧ h' = h := fun w hw => ⟨_, _, ext_at Tryz.func106 (by kernel_rfl) (by kernel_rfl) (by kernel_rfl) (show Extern.find _ = some (ReflectliteType.typeOf) by kernel_rfl) (typeOfF' v w), ⟨rfl, hw⟩, Rest.refl w⟩
theorem kindPE' (w : World) : ((ReflectliteType.abiMethod fun t => do pure (.int .u8 (← Rtype.kind t))) #[.pointer (some ⟨1, 82, none⟩)]).run Tryz.prog w = .ok (.int .u8 22) w := by kernel_rfl
theorem xKindPE  (h : Heap) : extH Tryz.prog 138 [.pointer (some ⟨1, 82, none⟩)] h fun v h' => v = .int .u8 22 ∧ h' = h := fun w hw => ⟨_, _, ext_at Tryz.func138 (by kernel_rfl) (by kernel_rfl) (by kernel_rfl) (show Extern.find _ = some (ReflectliteType.abiMethod fun t => do pure (.int .u8 (← Rtype.kind t))) by kernel_rfl) (kindPE' w), ⟨rfl, hw⟩, Rest.refl w⟩
theorem kindE' (w : World) : ((ReflectliteType.abiMethod fun t => do pure (.int .u8 (← Rtype.kind t))) #[.pointer (some ⟨1, 31, none⟩)]).run Tryz.prog w = .ok (.int .u8 2) w := by kernel_rfl
theorem xKindE  (h : Heap) : extH Tryz.prog 138 [.pointer (some ⟨1, 31, none⟩)] h fun v h' => v = .int .u8 2 ∧ h' = h := fun w hw => ⟨_, _, ext_at Tryz.func138 (by kernel_rfl) (by kernel_rfl) (by kernel_rfl) (show Extern.find _ = some (ReflectliteType.abiMethod fun t => do pure (.int .u8 (← Rtype.kind t))) by kernel_rfl) (kindE' w), ⟨rfl, hw⟩, Rest.refl w⟩
theorem kindF' (w : World) : ((ReflectliteType.abiMethod fun t => do pure (.int .u8 (← Rtype.kind t))) #[.pointer (some ⟨1, 145, none⟩)]).run Tryz.prog w = .ok (.int .u8 22) w := by kernel_rfl
theorem xKindF  (h : Heap) : extH Tryz.prog 138 [.pointer (some ⟨1, 145, none⟩)] h fun v h' => v = .int .u8 22 ∧ h' = h := fun w hw => ⟨_, _, ext_at Tryz.func138 (by kernel_rfl) (by kernel_rfl) (by kernel_rfl) (show Extern.find _ = some (ReflectliteType.abiMethod fun t => do pure (.int .u8 (← Rtype.kind t))) by kernel_rfl) (kindF' w), ⟨rfl, hw⟩, Rest.refl w⟩
theorem cmpE' (w : World) : ((ReflectliteType.method fun t => do Extern.Rtype.noPackHeld "Comparable" t; pure (.bool (← typeInfo t).comparable)) #[.agg #[.pointer (some ⟨1, 31, none⟩)]]).run Tryz.prog w = .ok (.bool true) w := by kernel_rfl
theorem xCmpE  (h : Heap) : extH Tryz.prog 149 [.agg #[.pointer (some ⟨1, 31, none⟩)]] h fun v h' => v = .bool true ∧ h' = h := fun w hw => ⟨_, _, ext_at Tryz.func149 (by kernel_rfl) (by kernel_rfl) (by kernel_rfl) (show Extern.find _ = some (ReflectliteType.method fun t => do Extern.Rtype.noPackHeld "Comparable" t; pure (.bool (← typeInfo t).comparable)) by kernel_rfl) (cmpE' w), ⟨rfl, hw⟩, Rest.refl w⟩
theorem elemE' (w : World) : (ReflectliteType.method ReflectliteType.elem #[.agg #[.pointer (some ⟨1, 82, none⟩)]]).run Tryz.prog w = .ok (.iface 171 (.agg #[.pointer (some ⟨1, 31, none⟩)])) w := by kernel_rfl
theorem xElemE  (h : Heap) : extH Tryz.prog 150 [.agg #[.pointer (some ⟨1, 82, none⟩)]] h fun v h' => v = .iface 171 (.agg #[.pointer (some ⟨1, 31, none⟩)]) ∧ h' = h := fun w hw => ⟨_, _, ext_at Tryz.func150 (by kernel_rfl) (by kernel_rfl) (by kernel_rfl) (show Extern.find _ = some (ReflectliteType.method ReflectliteType.elem) by kernel_rfl) (elemE' w), ⟨rfl, hw⟩, Rest.refl w⟩
theorem implE' (w : World) : (ReflectliteType.relation "Implements" ReflectliteType.implements_ #[.agg #[.pointer (some ⟨1, 31, none⟩)], .iface 171 (.agg #[.pointer (some ⟨1, 27, none⟩)])]).run Tryz.prog w = .ok (.bool true) w := by kernel_rfl
theorem xImplE  (h : Heap) : extH Tryz.prog 151 [.agg #[.pointer (some ⟨1, 31, none⟩)], .iface 171 (.agg #[.pointer (some ⟨1, 27, none⟩)])] h fun v h' => v = .bool true ∧ h' = h := fun w hw => ⟨_, _, ext_at Tryz.func151 (by kernel_rfl) (by kernel_rfl) (by kernel_rfl) (show Extern.find _ = some (ReflectliteType.relation "Implements" ReflectliteType.implements_) by kernel_rfl) (implE' w), ⟨rfl, hw⟩, Rest.refl w⟩
theorem asgEE' (w : World) : (ReflectliteType.relation "AssignableTo" ReflectliteType.assignableTo #[.agg #[.pointer (some ⟨1, 31, none⟩)], .iface 171 (.agg #[.pointer (some ⟨1, 31, none⟩)])]).run Tryz.prog w = .ok (.bool true) w := by kernel_rfl
theorem xAsgEE  (h : Heap) : extH Tryz.prog 148 [.agg #[.pointer (some ⟨1, 31, none⟩)], .iface 171 (.agg #[.pointer (some ⟨1, 31, none⟩)])] h fun v h' => v = .bool true ∧ h' = h := fun w hw => ⟨_, _, ext_at Tryz.func148 (by kernel_rfl) (by kernel_rfl) (by kernel_rfl) (show Extern.find _ = some (ReflectliteType.relation "AssignableTo" ReflectliteType.assignableTo) by kernel_rfl) (asgEE' w), ⟨rfl, hw⟩, Rest.refl w⟩
theorem asgFE' (w : World) : (ReflectliteType.relation "AssignableTo" ReflectliteType.assignableTo #[.agg #[.pointer (some ⟨1, 145, none⟩)], .iface 171 (.agg #[.pointer (some ⟨1, 31, none⟩)])]).run Tryz.prog w = .ok (.bool false) w := by kernel_rfl
theorem xAsgFE  (h : Heap) : extH Tryz.prog 148 [.agg #[.pointer (some ⟨1, 145, none⟩)], .iface 171 (.agg #[.pointer (some ⟨1, 31, none⟩)])] h fun v h' => v = .bool false ∧ h' = h := fun w hw => ⟨_, _, ext_at Tryz.func148 (by kernel_rfl) (by kernel_rfl) (by kernel_rfl) (show Extern.find _ = some (ReflectliteType.relation "AssignableTo" ReflectliteType.assignableTo) by kernel_rfl) (asgFE' w), ⟨rfl, hw⟩, Rest.refl w⟩
theorem valPE' (t : Addr) (w : World) : (ReflectliteValue.unpack (.iface 82 (.pointer (some t)))).run Tryz.prog w = .ok (.agg #[.pointer (some ⟨1, 82, none⟩), .pointer (some ⟨w.heap.size, 0, none⟩), .int .u64 150]) (w.alloc (.cells #[.pointer (some t)] 82)) := by kernel_rfl
theorem xValPE (t : Addr) (h : Heap) : extH Tryz.prog 64 [.iface 82 (.pointer (some t))] h fun v h' => v = .agg #[.pointer (some ⟨1, 82, none⟩), .pointer (some ⟨h.size, 0, none⟩), .int .u64 150] ∧ h' = h.push (.cells #[.pointer (some t)] 82) := fun w hw => by
  subst hw; exact ⟨_, _, ext_at Tryz.func64 (by kernel_rfl) (by kernel_rfl) (by kernel_rfl) (show Extern.find _ = some (fun args => ReflectliteValue.unpack (args.getD 0 (.tuple #[]))) by kernel_rfl) (valPE' t w), ⟨rfl, rfl⟩, Rest.alloc w _⟩
theorem valE' (e : Int) (w : World) : (ReflectliteValue.unpack (.iface 31 (.int .i64 e))).run Tryz.prog w = .ok (.agg #[.pointer (some ⟨1, 31, none⟩), .pointer (some ⟨w.heap.size, 0, none⟩), .int .u64 130]) (w.alloc (.cells #[.int .i64 e] 31)) := by kernel_rfl
theorem xValE (e : Int) (h : Heap) : extH Tryz.prog 64 [.iface 31 (.int .i64 e)] h fun v h' => v = .agg #[.pointer (some ⟨1, 31, none⟩), .pointer (some ⟨h.size, 0, none⟩), .int .u64 130] ∧ h' = h.push (.cells #[.int .i64 e] 31) := fun w hw => by
  subst hw; exact ⟨_, _, ext_at Tryz.func64 (by kernel_rfl) (by kernel_rfl) (by kernel_rfl) (show Extern.find _ = some (fun args => ReflectliteValue.unpack (args.getD 0 (.tuple #[]))) by kernel_rfl) (valE' e w), ⟨rfl, rfl⟩, Rest.alloc w _⟩
theorem typePE' (q : Addr) (w : World) : (ReflectliteValue.methodAny (ReflectliteValue.valueError "reflectlite.Value.Type" 0) (fun t _ _ _ => ReflectliteType.toType t) #[.agg #[.pointer (some ⟨1, 82, none⟩), .pointer (some q), .int .u64 150]]).run Tryz.prog w = .ok (.iface 171 (.agg #[.pointer (some ⟨1, 82, none⟩)])) w := by kernel_rfl
theorem xTypePE (q : Addr) (h : Heap) : extH Tryz.prog 65 [.agg #[.pointer (some ⟨1, 82, none⟩), .pointer (some q), .int .u64 150]] h fun v h' => v = .iface 171 (.agg #[.pointer (some ⟨1, 82, none⟩)]) ∧ h' = h := fun w hw => ⟨_, _, ext_at Tryz.func65 (by kernel_rfl) (by kernel_rfl) (by kernel_rfl) (show Extern.find _ = some (ReflectliteValue.methodAny (ReflectliteValue.valueError "reflectlite.Value.Type" 0) (fun t _ _ _ => ReflectliteType.toType t)) by kernel_rfl) (typePE' q w), ⟨rfl, hw⟩, Rest.refl w⟩
theorem partsPE' (a : Addr) (w : World) : (ReflectliteValue.parts (.agg #[.pointer (some ⟨1, 82, none⟩), .pointer (some a), .int .u64 150])).run Tryz.prog w = .ok (some (82, a, 150)) w := by kernel_rfl
theorem isNilPE' (a p : Addr) (W : World) (ha : W.cell? a = some (.pointer (some p))) :
    (ReflectliteValue.method (ReflectliteValue.valueError "reflectlite.Value.IsNil" 0) ReflectliteValue.isNil #[.agg #[.pointer (some ⟨1, 82, none⟩), .pointer (some a), .int .u64 150]]).run Tryz.prog W = .ok (.bool false) W := by
  rw [rlm]
  simp only [Sem.run_bind, partsPE', Result.andThen]
  simp [ReflectliteValue.isNil, loadVar, isAgg, underlying, Tryz.underlying82, ha, Result.andThen]
theorem xIsNilPE (q p : Addr) (h : Heap) (hq : cellH h q = some (.pointer (some p))) : extH Tryz.prog 66 [.agg #[.pointer (some ⟨1, 82, none⟩), .pointer (some q), .int .u64 150]] h fun v h' => v = .bool false ∧ h' = h := fun w hw => ⟨_, _, ext_at Tryz.func66 (by kernel_rfl) (by kernel_rfl) (by kernel_rfl) (show Extern.find _ = some (ReflectliteValue.method (ReflectliteValue.valueError "reflectlite.Value.IsNil" 0) ReflectliteValue.isNil) by kernel_rfl) (isNilPE' q p w (by rw [hw_cell h w hw]; exact hq)), ⟨rfl, hw⟩, Rest.refl w⟩
theorem elemOfPE' (w : World) : (Rtype.elem? 82).run Tryz.prog w = .ok (some 31) w := by kernel_rfl
theorem mkE' (p : Addr) (w : World) : (ReflectliteValue.mk 31 p ReflectliteValue.flagAddr).run Tryz.prog w = .ok (.agg #[.pointer (some ⟨1, 31, none⟩), .pointer (some p), .int .u64 386]) w := by kernel_rfl
theorem elemVPE' (a p : Addr) (W : World) (ha : W.cell? a = some (.pointer (some p))) :
    (ReflectliteValue.method (ReflectliteValue.valueError "reflectlite.Value.Elem" 0) ReflectliteValue.elem #[.agg #[.pointer (some ⟨1, 82, none⟩), .pointer (some a), .int .u64 150]]).run Tryz.prog W = .ok (.agg #[.pointer (some ⟨1, 31, none⟩), .pointer (some p), .int .u64 386]) W := by
  rw [rlm]
  simp only [Sem.run_bind, partsPE', Result.andThen]
  simp [ReflectliteValue.elem, loadVar, isAgg, underlying, Tryz.underlying82, ha, Result.andThen, elemOfPE', mkE']
theorem xElemVPE (q p : Addr) (h : Heap) (hq : cellH h q = some (.pointer (some p))) : extH Tryz.prog 108 [.agg #[.pointer (some ⟨1, 82, none⟩), .pointer (some q), .int .u64 150]] h fun v h' => v = .agg #[.pointer (some ⟨1, 31, none⟩), .pointer (some p), .int .u64 386] ∧ h' = h := fun w hw => ⟨_, _, ext_at Tryz.func108 (by kernel_rfl) (by kernel_rfl) (by kernel_rfl) (show Extern.find _ = some (ReflectliteValue.method (ReflectliteValue.valueError "reflectlite.Value.Elem" 0) ReflectliteValue.elem) by kernel_rfl) (elemVPE' q p w (by rw [hw_cell h w hw]; exact hq)), ⟨rfl, hw⟩, Rest.refl w⟩
theorem partsEa' (a : Addr) (w : World) : (ReflectliteValue.parts (.agg #[.pointer (some ⟨1, 31, none⟩), .pointer (some a), .int .u64 386])).run Tryz.prog w = .ok (some (31, a, 386)) w := by kernel_rfl
theorem partsE' (a : Addr) (w : World) : (ReflectliteValue.parts (.agg #[.pointer (some ⟨1, 31, none⟩), .pointer (some a), .int .u64 130])).run Tryz.prog w = .ok (some (31, a, 130)) w := by kernel_rfl
theorem directE' (w : World) : (Rtype.directlyAssignable 31 31).run Tryz.prog w = .ok true w := by kernel_rfl
theorem setE' (ta b : Addr) (e : Int) (old : Value) (W : World) (hb : W.cell? b = some (.int .i64 e)) (ht : W.cell? ta = some old) (hf : W.frozen? ta = false) :
    (ReflectliteValue.set #[.agg #[.pointer (some ⟨1, 31, none⟩), .pointer (some ta), .int .u64 386], .agg #[.pointer (some ⟨1, 31, none⟩), .pointer (some b), .int .u64 130]]).run Tryz.prog W = .ok (.tuple #[]) (W.setCell ta (.int .i64 e)) := by
  rw [rls]
  simp only [Sem.run_bind, partsEa', partsE', Result.andThen]
  simp [ReflectliteValue.flagAddr, loadVar, isAgg, underlying, Tryz.underlying31, hb, Result.andThen, directE', storeVar, Value.cells, storeCells, Addr.add]
  rw [run_store Tryz.prog W ta _ _ (by rfl)]
  simp [ht, hf]
theorem xSetE (t : Nat) (b : Addr) (e : Int) (old : Value) (Ty : TypeId) (h : Heap) (hb : cellH h b = some (.int .i64 e)) (ht : Blk h t #[old] Ty) : extH Tryz.prog 109 [.agg #[.pointer (some ⟨1, 31, none⟩), .pointer (some ⟨t, 0, none⟩), .int .u64 386], .agg #[.pointer (some ⟨1, 31, none⟩), .pointer (some b), .int .u64 130]] h fun v h' => v = .tuple #[] ∧ Blk h' t #[.int .i64 e] Ty ∧ Only t h h' := fun w hw => by
  subst hw
  refine ⟨_, _, ext_at Tryz.func109 (by kernel_rfl) (by kernel_rfl) (by kernel_rfl) (show Extern.find _ = some (ReflectliteValue.set) by kernel_rfl) (setE' ⟨t, 0, none⟩ b e old w hb (by rw [cellH_eq, cellH_blk ht]; rfl) (by rw [frozenH_eq]; exact frozenH_blk ht)), ⟨rfl, ?_, ?_⟩, Rest.setCell _ _ _⟩
  · rw [setH_eq]; exact setH_blk (o := 0) (.int .i64 e) ht
  · rw [setH_eq]; exact setH_only (o := 0) _
theorem valF' (e : Addr) (w : World) : (ReflectliteValue.unpack (.iface 145 (.pointer (some e)))).run Tryz.prog w = .ok (.agg #[.pointer (some ⟨1, 145, none⟩), .pointer (some ⟨w.heap.size, 0, none⟩), .int .u64 150]) (w.alloc (.cells #[.pointer (some e)] 145)) := by kernel_rfl
theorem xValF (e : Addr) (h : Heap) : extH Tryz.prog 64 [.iface 145 (.pointer (some e))] h fun v h' => v = .agg #[.pointer (some ⟨1, 145, none⟩), .pointer (some ⟨h.size, 0, none⟩), .int .u64 150] ∧ h' = h.push (.cells #[.pointer (some e)] 145) := fun w hw => by
  subst hw; exact ⟨_, _, ext_at Tryz.func64 (by kernel_rfl) (by kernel_rfl) (by kernel_rfl) (show Extern.find _ = some (fun args => ReflectliteValue.unpack (args.getD 0 (.tuple #[]))) by kernel_rfl) (valF' e w), ⟨rfl, rfl⟩, Rest.alloc w _⟩
/-- A chain of faults, the outmost one first, and the code at its end (0: no error at all). -/
def ErrC (h : Heap) : Value → List (ByteArray × Int) → Int → Prop
  | v, [], c => v = errV c
  | v, (op, at_) :: l, c => c ≠ 0 ∧ ∃ b v', v = .iface 145 (.pointer (some ⟨b, 0, none⟩)) ∧ Blk h b #[.string op, .int .i64 at_, v'] 147 ∧ ErrC h v' l c
theorem ErrC.new {h h' : Heap} (n : New h h') : ∀ {v : Value} {l : List (ByteArray × Int)} {c : Int}, ErrC h v l c → ErrC h' v l c
  | _, [], _, e => e
  | _, (_, _) :: _, _, ⟨hc, b, v', e, hb, r⟩ => ⟨hc, b, v', e, hb.new n, r.new n⟩
theorem ErrC.ok {h : Heap} : ∀ {v : Value} {l : List (ByteArray × Int)} {c : Int}, ErrC h v l c → IsIf v ∧ isNilV v = decide (c = 0)
  | _, [], c, e => by subst e; exact ⟨errV_if c, errV_nil c⟩
  | _, (_, _) :: _, c, ⟨hc, b, v', e, _, _⟩ => by subst e; exact ⟨.inr ⟨_, _, rfl⟩, by simp [isNilV, hc]⟩
theorem hasAsE : hasB Tryz.prog 175 31 = some false := by kernel_rfl
theorem hasAsF : hasB Tryz.prog 175 145 = some false := by kernel_rfl
theorem hasUnE : hasB Tryz.prog 178 31 = some false := by kernel_rfl
theorem hasUnF : hasB Tryz.prog 178 145 = some true := by kernel_rfl
theorem hasUlE : hasB Tryz.prog 179 31 = some false := by kernel_rfl
theorem mUnw (p : Addr) (w : World) : (Go.method (Tryz.prog.types.size + Made.depth) 145 (.pointer (some p)) "Unwrap").run Tryz.prog w = .ok (146, .pointer (some p)) w := by kernel_rfl
theorem asI_t {P : Program} {t u : TypeId} {x : Value} {Y N : Prop} (h : hasB P t u = some true) (hY : Y) : asI P t (.iface u x) Y N := by simp only [asI, h]; exact hY
theorem asI_f {P : Program} {t u : TypeId} {x : Value} {Y N : Prop} (h : hasB P t u = some false) (hN : N) : asI P t (.iface u x) Y N := by simp only [asI, h]; exact hN
theorem unwrap_ok (b : Nat) (op : ByteArray) (at_ : Int) (v' : Value) (h : Heap) (hb : Blk h b #[.string op, .int .i64 at_, v'] 147) : CallsH Tryz.prog 146 [.pointer (some ⟨b, 0, none⟩)] h fun v h' => v = v' ∧ h' = h := by
  refine fun_ok hm' Tryz.func146 (by kernel_rfl) (F146_eq _ _ h) ?_
  unfold F146
  exact ld_of (c := .any) v' (by rw [add_mk, cellH_blk hb]; rfl) ⟨rfl, rfl⟩
end Go.Proofs.YthimfpkkdhpceaaGreatDoor.Err
/-
  errors.As over chains of faults: at a code, at a fault.
-/
namespace Go.Proofs.YthimfpkkdhpceaaGreatDoor.Err
open Go.RowKit Go.Extern.Stop Go.Stop Go.Extern Go.Pl Go.Proofs.YthimfpkkdhpceaaGreatDoor.W Go.Proofs.YthimfpkkdhpceaaGreatDoor.As
theorem errV_inj {c d : Int} (h : errV c = errV d) : c = d := by
  unfold errV at h
  split at h <;> split at h <;> simp_all
theorem errV_notF {c : Int} {a : Option Addr} (h : errV c = .iface 145 (.pointer a)) : False := by
  unfold errV at h
  split at h <;> simp_all
theorem ErrC.uniq {h : Heap} : ∀ {v : Value} {l l' : List (ByteArray × Int)} {c c' : Int}, ErrC h v l c → ErrC h v l' c' → l = l' ∧ c = c'
  | _, [], [], _, _, e, e' => ⟨rfl, errV_inj ((show _ = _ from e).symm.trans e')⟩
  | _, [], (_, _) :: _, _, _, e, ⟨_, _, _, e', _, _⟩ => (errV_notF ((show _ = _ from e).symm.trans e')).elim
  | _, (_, _) :: _, [], _, _, ⟨_, _, _, e', _, _⟩, e => (errV_notF ((show _ = _ from e).symm.trans e')).elim
  | _, (_, _) :: _, (_, _) :: _, _, _, ⟨_, b, v', e, hb, r⟩, ⟨_, b2, v2, e2, hb2, r2⟩ => by
    subst e
    injection e2 with _ e2
    injection e2 with e2
    injection e2 with e2
    injection e2 with e2
    subst e2
    have key := (show h[b]? = _ from hb).symm.trans hb2
    injection key with key
    injection key with key
    injection key with key
    injection key with k1 key
    injection key with k2 key
    injection key with k3 key
    injection k1 with k1
    injection k2 with _ k2
    subst k1 k2 k3
    obtain ⟨rfl, rfl⟩ := r.uniq r2
    exact ⟨rfl, rfl⟩
open Classical in
/-- How many faults a chain has. -/
noncomputable def lenE (h : Heap) (v : Value) : Nat := if e : ∃ p : List (ByteArray × Int) × Int, ErrC h v p.1 p.2 then (Classical.choose e).1.length else 0
theorem lenE_of {h : Heap} {v : Value} {l : List (ByteArray × Int)} {c : Int} (e : ErrC h v l c) : lenE h v = l.length := by
  have ex : ∃ p : List (ByteArray × Int) × Int, ErrC h v p.1 p.2 := ⟨(l, c), e⟩
  unfold lenE
  rw [dif_pos ex, ((Classical.choose_spec ex).uniq e).1]
abbrev rtE : Value := .iface 171 (.agg #[.pointer (some ⟨1, 31, none⟩)])
abbrev rtF : Value := .iface 171 (.agg #[.pointer (some ⟨1, 145, none⟩)])
set_option maxRecDepth 20000 in
theorem as_E (t : Nat) (tg : Value) (q : Nat) (Tq : TypeId) (old : Value) (T : TypeId) (v : Value) (l : List (ByteArray × Int)) (c : Int) (h : Heap) (hc : c ≠ 0) (he : ErrC h v l c) (ht : Blk h t #[old] T) (hq : Blk h q #[.pointer (some ⟨t, 0, none⟩)] Tq) :
    CallsH Tryz.prog 67 [v, tg, .agg #[.pointer (some ⟨1, 82, none⟩), .pointer (some ⟨q, 0, none⟩), .int .u64 150], rtE] h fun r h' => r = .bool true ∧ Blk h' t #[.int .i64 c] T ∧ Upd t h h' := by
  refine fun_ok hm' Tryz.func67 (by kernel_rfl) (F67_eq _ _ _ _ _ _ _ h) ?_
  unfold F67
  refine new_of fun h1 b1 n1 s1 => ?_
  refine ⟨fun (s : Value) h' => h' = h1 ∧ ∃ l', ErrC h1 s l' c, fun (s : Value) h' => lenE h' s, ⟨rfl, l, he.new n1⟩, ?_⟩
  rintro s _ h' ⟨hh, l', es⟩
  subst h'
  cases l' with
  | nil =>
    obtain rfl : s = .iface 31 (.int .i64 c) := (show s = errV c from es).trans (errV_ne hc)
    refine ext_of (xTypeOfE _ h1) ?_
    rintro r h2 ⟨rfl, hh⟩
    subst h2
    refine ⟨_, rfl, inv_of (mAsg _) (.inr (xAsgEE h1)) ?_⟩
    rintro r h2 ⟨rfl, hh⟩
    subst h2
    refine ⟨true, rfl, br_t rfl (ldAgg_blk (cs := [.ptr, .any, .int .u64]) (some ⟨1, 82, none⟩, .pointer (some ⟨q, 0, none⟩), (150 : Int)) b1 ⟨rfl, rfl, rfl, trivial⟩ ?_)⟩
    refine ext_of (xElemVPE ⟨q, 0, none⟩ ⟨t, 0, none⟩ h1 (by rw [cellH_blk (hq.new n1)]; rfl)) ?_
    rintro r h2 ⟨rfl, hh⟩
    subst h2
    refine ⟨(some _, .pointer (some _), (386 : Int)), rfl, ext_of (xValE c h1) ?_⟩
    rintro r h2 ⟨rfl, hh⟩
    subst h2
    refine ⟨(some _, .pointer (some _), (130 : Int)), rfl, ext_of (xSetE t ⟨h1.size, 0, none⟩ c old T _ (by rw [cellH_blk (Blk.push h1 _ _)]; rfl) ((ht.new n1).new (New.push _ _))) ?_⟩
    rintro r h3 ⟨rfl, b3, o3⟩
    exact ⟨(), rfl, rfl, b3, (n1.trans (New.push _ _)).upd.trans o3.upd⟩
  | cons p l'' =>
    obtain ⟨op, at_⟩ := p
    have es0 := es
    obtain ⟨_, b, v', rfl, hb, ev⟩ := es
    refine ext_of (xTypeOfF _ h1) ?_
    rintro r h2 ⟨rfl, hh⟩
    subst h2
    refine ⟨_, rfl, inv_of (mAsg _) (.inr (xAsgFE h1)) ?_⟩
    rintro r h2 ⟨rfl, hh⟩
    subst h2
    refine ⟨false, rfl, br_f rfl ?_⟩
    refine cut_q (fun _ h' => h' = h1) ?_ fun K17 k17 => ?_
    · rintro _ h' hh _
      subst h'
      refine cut_q (fun (s : Bool × Value) h' => s = (true, .iface 145 (.pointer (some ⟨b, 0, none⟩))) ∧ h' = h1) ?_ fun K27 k27 => ?_
      · rintro _ h' ⟨rfl, hh⟩ _
        subst h'
        refine br_t rfl (inv_of (mUnw _) (.inl (unwrap_ok b op at_ v' h1 hb)) ?_)
        rintro r h2 ⟨hr, hh⟩
        subst hr hh
        have ok := ev.ok
        refine ⟨_, rfl, ⟨ok.1, br_f (by rw [ok.2]; simp [hc]) ⟨⟨rfl, _, ev⟩, ?_⟩⟩⟩
        show lenE _ _ < lenE _ _
        rw [lenE_of ev, lenE_of es0]
        simp
      · exact asI_t hasUnF (k27 _ h1 ⟨rfl, rfl⟩)
    · refine cut_q (fun (s : Value × Bool) h' => s = (.nilIface, false) ∧ h' = h1) ?_ fun K18 k18 => ?_
      · rintro _ h' ⟨rfl, hh⟩ _
        subst h'
        exact br_f rfl (k17 () h1 rfl)
      · exact asI_f hasAsF (k18 _ h1 ⟨rfl, rfl⟩)
end Go.Proofs.YthimfpkkdhpceaaGreatDoor.Err
/-
  errors.As over chains of faults, for the two kinds of targets. Printed by tools/mkerr3.py.
-/
namespace Go.Proofs.YthimfpkkdhpceaaGreatDoor.Err
open Go.RowKit Go.Extern.Stop Go.Stop Go.Extern Go.Pl Go.Proofs.YthimfpkkdhpceaaGreatDoor.W Go.Proofs.YthimfpkkdhpceaaGreatDoor.As
theorem zeroRV : zeroC Tryz.prog 126 = #[.pointer none, .pointer none, .int .u64 0] := by kernel_rfl
set_option maxRecDepth 20000 in
theorem As_E (v : Value) (t : Nat) (h : Heap) (hv : IsIf v) (hn : isNilV v = false) (hg : Laid h) {R : Value → Heap → Prop}
    (hR : ∀ q h1, Blk h1 q #[.pointer (some ⟨t, 0, none⟩)] 82 → New h h1 → CallsH Tryz.prog 67 [v, .iface 82 (.pointer (some ⟨t, 0, none⟩)), .agg #[.pointer (some ⟨1, 82, none⟩), .pointer (some ⟨q, 0, none⟩), .int .u64 150], rtE] h1 fun r h' => (∃ b : Bool, r = .bool b) ∧ R r h') :
    CallsH Tryz.prog 31 [v, .iface 82 (.pointer (some ⟨t, 0, none⟩))] h R := by
  refine fun_ok hm' Tryz.func31 (by kernel_rfl) (F31_eq _ _ _ h) ?_
  unfold F31
  refine ⟨hv, br_f hn (cut_q (fun _ h' => h' = h) ?_ fun K1 k1 => ⟨.inr ⟨_, _, rfl⟩, br_f rfl (k1 () h rfl)⟩)⟩
  rintro _ h' hh _
  subst h'
  refine ext_of (xValPE ⟨t, 0, none⟩ h) ?_
  rintro r h1 ⟨rfl, hh⟩
  have hq : Blk h1 h.size #[.pointer (some ⟨t, 0, none⟩)] 82 := by subst h1; exact Blk.push _ _ _
  have n1 : New h h1 := by subst h1; exact New.push _ _
  clear hh
  refine ⟨(some _, .pointer (some _), (150 : Int)), rfl, new_of fun h2 b2 n2 s2 => ?_⟩
  rw [zeroRV] at b2
  simp only [oneC]
  refine stL_blk b2 (by simp) fun h3 b3 o3 => ?_
  have b3 : Blk h3 h1.size #[.pointer (some ⟨1, 82, none⟩), .pointer (some ⟨h.size, 0, none⟩), .int .u64 150] 126 := b3
  have n3 : New h1 h3 := o3.upd.new n2 (Nat.le_refl _)
  have hq3 := hq.new n3
  refine ldAgg_blk (cs := [.ptr, .any, .int .u64]) (some ⟨1, 82, none⟩, .pointer (some ⟨h.size, 0, none⟩), (150 : Int)) b3 ⟨rfl, rfl, rfl, trivial⟩ ?_
  refine ext_of (xTypePE ⟨h.size, 0, none⟩ h3) ?_
  rintro r h4 ⟨rfl, hh⟩
  subst h4
  refine ⟨_, rfl, cut_q (fun _ h' => h' = h3) ?_ fun K13 k13 => ?_⟩
  · rintro _ h' hh _
    subst h'
    refine inv_of (mElem _) (.inr (xElemE h3)) ?_
    rintro r h4 ⟨rfl, hh⟩
    subst h4
    refine ⟨_, rfl, cut_q (fun _ h' => h' = h3) ?_ fun K24 k24 => ?_⟩
    · rintro _ h' hh _
      subst h'
      refine ldAgg_blk (cs := [.ptr, .any, .int .u64]) (some ⟨1, 82, none⟩, .pointer (some ⟨h.size, 0, none⟩), (150 : Int)) b3 ⟨rfl, rfl, rfl, trivial⟩ ?_
      refine call_of (hR h.size h3 hq3 (n1.trans n3)) ?_
      rintro r h' ⟨⟨b, rfl⟩, k⟩
      exact ⟨b, rfl, k⟩
    · refine inv_of (mKind _) (.inr (xKindE h3)) ?_
      rintro r h4 ⟨rfl, hh⟩
      subst h4
      refine ⟨(2 : Int), rfl, br_t rfl (ld_of (c := .any) _ (hg.new (n1.trans n3)) (inv_of (mImpl _) (.inr (xImplE h3)) ?_))⟩
      rintro r h4 ⟨rfl, hh⟩
      subst h4
      exact ⟨true, rfl, br_f rfl (k24 () h3 rfl)⟩
  · refine inv_of (mKind _) (.inr (xKindPE h3)) ?_
    rintro r h4 ⟨rfl, hh⟩
    subst h4
    refine ⟨(22 : Int), rfl, br_f rfl (ldAgg_blk (cs := [.ptr, .any, .int .u64]) (some ⟨1, 82, none⟩, .pointer (some ⟨h.size, 0, none⟩), (150 : Int)) b3 ⟨rfl, rfl, rfl, trivial⟩ (ext_of (xIsNilPE ⟨h.size, 0, none⟩ ⟨t, 0, none⟩ h3 (by rw [cellH_blk hq3]; rfl)) ?_))⟩
    rintro r h4 ⟨rfl, hh⟩
    subst h4
    exact ⟨false, rfl, br_f rfl (k13 () h3 rfl)⟩
theorem asE_ok (t : Nat) (old : Value) (T : TypeId) (v : Value) (l : List (ByteArray × Int)) (c : Int) (h : Heap) (hg : Laid h) (hc : c ≠ 0) (he : ErrC h v l c) (ht : Blk h t #[old] T) :
    CallsH Tryz.prog 31 [v, .iface 82 (.pointer (some ⟨t, 0, none⟩))] h fun r h' => r = .bool true ∧ Blk h' t #[.int .i64 c] T ∧ Upd t h h' := by
  refine As_E v t h he.ok.1 (by rw [he.ok.2]; simp [hc]) hg fun q h1 hq n1 => (as_E t _ q _ old T v l c h1 hc (he.new n1) (ht.new n1) hq).mono ?_
  rintro r h' ⟨rfl, b, u⟩
  exact ⟨⟨_, rfl⟩, rfl, b, n1.upd.trans u⟩
end Go.Proofs.YthimfpkkdhpceaaGreatDoor.Err
/-
  fault.Code and fault.Wrap over chains of faults.
-/
namespace Go.Proofs.YthimfpkkdhpceaaGreatDoor.Err
open Go.RowKit Go.Extern.Stop Go.Stop Go.Extern Go.Pl Go.Proofs.YthimfpkkdhpceaaGreatDoor.W Go.Proofs.YthimfpkkdhpceaaGreatDoor.As
/-- fault.Code of any error: its code. -/
theorem code_ok (v : Value) (l : List (ByteArray × Int)) (c : Int) (h : Heap) (hg : Laid h) (he : ErrC h v l c) : CallsH Tryz.prog 12 [v] h fun r h' => r = .int .i64 c ∧ New h h' := by
  by_cases hc : c = 0
  · cases l with
    | nil =>
      have he : v = errV c := he
      subst he
      exact code_err c h hg
    | cons p l => obtain ⟨_, _⟩ := p; exact absurd hc he.1
  · refine fun_ok hm' Tryz.func12 (by kernel_rfl) (F12_eq _ _ h) ?_
    unfold F12
    rw [zeroE]
    refine new_of fun h1 b1 n1 s1 => ?_
    refine call_of (asE_ok h.size _ _ v l c h1 (hg.new n1) hc (he.new n1) b1) ?_
    rintro r h2 ⟨rfl, b2, u2⟩
    exact ⟨true, rfl, br_t rfl (ld_of (c := .int .i64) c (by rw [cellH_blk b2]; rfl) ⟨rfl, u2.new n1 (Nat.le_refl _)⟩)⟩
theorem builtF (op : ByteArray) (at_ : Int) {v : Value} (hv : IsIf v) : (Program.built Tryz.prog 147 [(0, .string op), (1, .int .i64 at_), (2, v)]) = some #[.string op, .int .i64 at_, v] := by
  rcases hv with rfl | ⟨t, u, rfl⟩
  · kernel_rfl
  · kernel_rfl
/-- fault.Wrap of what is no error. -/
theorem wrap_nil (op : ByteArray) (at_ : Int) (h : Heap) : CallsH Tryz.prog 35 [.string op, .int .i64 at_, .nilIface] h fun r h' => r = .nilIface ∧ h' = h := by
  refine fun_ok hm' Tryz.func35 (by kernel_rfl) (F35_eq _ _ _ _ h) ?_
  unfold F35
  refine cut_q (fun _ _ => False) (fun _ _ hf => hf.elim) fun K1 k1 => ?_
  exact ⟨.inl rfl, br_t rfl ⟨rfl, rfl⟩⟩
theorem wrap_zero (op : ByteArray) (at_ : Int) (h : Heap) : CallsH Tryz.prog 35 [.string op, .int .i64 at_, .iface 31 (.int .i64 0)] h fun r h' => r = .nilIface ∧ h' = h := by
  refine fun_ok hm' Tryz.func35 (by kernel_rfl) (F35_eq _ _ _ _ h) ?_
  unfold F35
  refine cut_q (fun _ _ => False) (fun _ _ hf => hf.elim) fun K1 k1 => ?_
  refine ⟨.inr ⟨_, _, rfl⟩, br_f rfl (cut_q (fun (s : Bool × Int) h' => s = (true, (0 : Int)) ∧ h' = h) ?_ fun K2 k2 => ?_)⟩
  · rintro _ h' ⟨rfl, hh⟩ _
    subst h'
    exact br_t rfl (br_t rfl ⟨rfl, rfl⟩)
  · exact ⟨(0 : Int), rfl, k2 _ h ⟨rfl, rfl⟩⟩
theorem wrap_ok (op : ByteArray) (at_ : Int) (v : Value) (l : List (ByteArray × Int)) (c : Int) (h : Heap) (hc : c ≠ 0) (he : ErrC h v l c) :
    CallsH Tryz.prog 35 [.string op, .int .i64 at_, v] h fun r h' => ErrC h' r ((op, at_) :: l) c ∧ New h h' := by
  refine fun_ok hm' Tryz.func35 (by kernel_rfl) (F35_eq _ _ _ _ h) ?_
  unfold F35
  have ok := he.ok
  refine cut_q (fun _ h' => h' = h) ?_ fun K1 k1 => ?_
  · rintro _ h' hh _
    subst h'
    refine ⟨(op, at_, v), builtF op at_ ok.1, new_of fun h1 b1 n1 _ => ?_⟩
    exact ⟨⟨hc, h.size, v, rfl, b1, he.new n1⟩, n1⟩
  · refine ⟨ok.1, br_f (by rw [ok.2]; simp [hc]) ?_⟩
    cases l with
    | nil =>
      obtain rfl : v = .iface 31 (.int .i64 c) := (show v = errV c from he).trans (errV_ne hc)
      refine cut_q (fun (s : Bool × Int) h' => s = (true, c) ∧ h' = h) ?_ fun K2 k2 => ?_
      · rintro _ h' ⟨rfl, hh⟩ _
        subst h'
        exact br_t rfl (br_f (by simpa using hc) (k1 () h rfl))
      · exact ⟨c, rfl, k2 _ h ⟨rfl, rfl⟩⟩
    | cons p l =>
      obtain ⟨_, _⟩ := p
      obtain ⟨_, b, v', rfl, _, _⟩ := he
      refine cut_q (fun (s : Bool × Int) h' => s = (false, (0 : Int)) ∧ h' = h) ?_ fun K2 k2 => ?_
      · rintro _ h' ⟨rfl, hh⟩ _
        subst h'
        exact br_f rfl (k1 () h rfl)
      · exact k2 _ h ⟨rfl, rfl⟩
end Go.Proofs.YthimfpkkdhpceaaGreatDoor.Err
/-
  The formulas of errors.Is and fault.Is. Each formula checked by the kernel. Printed by a program of this repo.
-/
namespace Go.Proofs.YthimfpkkdhpceaaGreatDoor.W
open Go.Pl

-- function 58
set_option maxRecDepth 100000 in
def F58 (err_0 : Value) (target_1 : Value) (K : Value → Heap → Prop) (h0 : Heap) : Prop := (
  cutT [] (fun (K1 : Unit → Heap → Prop) h4 =>
  ifW err_0 (br (isNilV err_0)
  (eqIf Tryz.prog 27 err_0 target_1 (fun b2 =>
  K (.bool b2) h4) )
  (ifW target_1 (br (isNilV target_1)
  (eqIf Tryz.prog 27 err_0 target_1 (fun b3 =>
  K (.bool b3) h4) )
  (K1 () h4))))) (fun (_s5 : Unit) _ h6 =>
  callT Tryz.prog 106 [target_1] [.sc .any] (fun (r7 : Value) h8 =>
  invW Tryz.prog (.sc .bool) r7 "Comparable" [] (fun (x9 : Bool) h10 =>
  callT Tryz.prog 107 [err_0, target_1, .bool x9] [.sc .bool] (fun (r11 : Bool) h12 =>
  K (.bool r11) h12) h10) h8) h6) h0)
set_option maxRecDepth 100000 in
theorem F58_eq (err_0 : Value) (target_1 : Value) (K : Value → Heap → Prop) (h0 : Heap) : funWE Tryz.prog 58 (.seq (.leaf) (.cut [] (.seq (.leaf) (.cond (.seq (.leaf) (.leaf)) (.leaf))) (.seq (.leaf) (.seq (.leaf) (.leaf))))) [err_0, target_1] K h0 = F58 err_0 target_1 K h0 := by kernel_rfl

-- function 107
set_option maxRecDepth 100000 in
def F107 (err_0 : Value) (target_1 : Value) (targetComparable_2 : Bool) (K : Value → Heap → Prop) (h0 : Heap) : Prop := (
  loopT [.sc .any] (fun (s2 : Value) _ (K1 : Value → Heap → Prop) h3 =>
  cutT [] (fun (K4 : Unit → Heap → Prop) h6 =>
  br targetComparable_2
  (eqIf Tryz.prog 27 s2 target_1 (fun b5 =>
  br b5
  (K (.bool true) h6)
  (K4 () h6)) )
  (K4 () h6)) (fun (_s7 : Unit) _ h8 =>
  cutT [] (fun (K9 : Unit → Heap → Prop) h16 =>
  cutT [.sc .any, .sc .bool] (fun (K10 : (Value × Bool) → Heap → Prop) h11 =>
  asI Tryz.prog 192 s2
  (K10 (s2, true) h11)
  (K10 ((.nilIface : Value), false) h11)) (fun (s12 : Value × Bool) _ h13 =>
  br s12.2
  (invW Tryz.prog (.sc .bool) s12.1 "Is" [target_1] (fun (x14 : Bool) h15 =>
  br x14
  (K (.bool true) h15)
  (K9 () h15)) h13)
  (K9 () h13)) h16) (fun (_s17 : Unit) _ h18 =>
  cutT [.sc .bool, .sc .any] (fun (K19 : (Bool × Value) → Heap → Prop) h20 =>
  asI Tryz.prog 178 s2
  (K19 (true, s2) h20)
  (K19 (false, (.nilIface : Value)) h20)) (fun (s21 : Bool × Value) _ h22 =>
  br s21.1
  (invW Tryz.prog (.sc .any) s21.2 "Unwrap" [] (fun (x23 : Value) h24 =>
  ifW x23 (br (isNilV x23)
  (K (.bool false) h24)
  (K1 x23 h24))) h22)
  (cutT [.sc .bool, .sc .any] (fun (K25 : (Bool × Value) → Heap → Prop) h26 =>
  asI Tryz.prog 179 s2
  (K25 (true, s2) h26)
  (K25 (false, (.nilIface : Value)) h26)) (fun (s27 : Bool × Value) _ h28 =>
  br s27.1
  (invW Tryz.prog (.sc .slice) s27.2 "Unwrap" [] (fun (x29 : Option Addr × Nat × Nat) h30 =>
  loopT [.sc (.int .i64)] (fun (s32 : Int) _ (K31 : Int → Heap → Prop) h33 =>
  br (decide (s32 < (((x29.2.1 : Nat) : Int))))
  (ptrW x29.1 (fun a34 =>
  idxW s32 x29.2.1 true (ldW .any (Addr.add a34 (Int.toNat s32 * 1)) (fun (x35 : Value) =>
  callT Tryz.prog 107 [x35, target_1, .bool targetComparable_2] [.sc .bool] (fun (r36 : Bool) h37 =>
  br r36
  (K (.bool true) h37)
  (K31 (IntKind.wrap .i64 (s32 + (1 : Int))) h37)) h33) h33)))
  (K (.bool false) h33)) (0 : Int) h30) h28)
  (K (.bool false) h28)) h22)) h18) h8) h3) err_0 h0)
set_option maxRecDepth 100000 in
theorem F107_eq (err_0 : Value) (target_1 : Value) (targetComparable_2 : Bool) (K : Value → Heap → Prop) (h0 : Heap) : funWE Tryz.prog 107 (.seq (.leaf) (.block (.loop [(0, .sc .any)] (.block (.cut [] (.seq (.leaf) (.cond (.seq (.leaf) (.leaf)) (.leaf))) (.cut [] (.cut [(7, .sc .any), (8, .sc .bool)] (.leaf) (.seq (.leaf) (.cond (.seq (.leaf) (.leaf)) (.leaf)))) (.seq (.leaf) (.block (.cut [(33, .sc .bool), (34, .sc .any)] (.leaf) (.cond (.seq (.leaf) (.seq (.leaf) (.seq (.leaf) (.cond (.seq (.leaf) (.leaf)) (.leaf))))) (.cut [(40, .sc .bool), (41, .sc .any)] (.leaf) (.cond (.seq (.leaf) (.seq (.seq (.leaf) (.block (.loop [(45, .sc (.int .i64))] (.seq (.leaf) (.seq (.cond (.leaf) (.leaf)) (.seq (.block (.seq (.leaf) (.seq (.leaf) (.cond (.seq (.leaf) (.leaf)) (.leaf))))) (.leaf))))))) (.seq (.leaf) (.leaf)))) (.seq (.leaf) (.seq (.leaf) (.leaf))))))))))))))) [err_0, target_1, .bool targetComparable_2] K h0 = F107 err_0 target_1 targetComparable_2 K h0 := by kernel_rfl

end Go.Proofs.YthimfpkkdhpceaaGreatDoor.W
/-
  errors.Is and fault.Is over chains of faults.
-/
namespace Go.Proofs.YthimfpkkdhpceaaGreatDoor.Err
open Go.RowKit Go.Extern.Stop Go.Stop Go.Extern Go.Pl Go.Proofs.YthimfpkkdhpceaaGreatDoor.W Go.Proofs.YthimfpkkdhpceaaGreatDoor.As
theorem hasIsE : hasB Tryz.prog 192 31 = some false := by kernel_rfl
theorem hasIsF : hasB Tryz.prog 192 145 = some false := by kernel_rfl
theorem eqN (t : TypeId) (y : Value) (w : World) : (Op.equal 27 .nilIface (.iface t y)).run Tryz.prog w = .ok false w := by kernel_rfl
theorem eqFE (x y : Value) (w : World) : (Op.equal 27 (.iface 145 x) (.iface 31 y)).run Tryz.prog w = .ok false w := by kernel_rfl
theorem eqEE (x y : Int) (w : World) : (Op.equal 27 (.iface 31 (.int .i64 x)) (.iface 31 (.int .i64 y))).run Tryz.prog w = .ok (x == y) w := by kernel_rfl
set_option maxRecDepth 20000 in
theorem is_ok (v : Value) (l : List (ByteArray × Int)) (c e : Int) (h : Heap) (hc : c ≠ 0) (he : ErrC h v l c) :
    CallsH Tryz.prog 107 [v, .iface 31 (.int .i64 e), .bool true] h fun r h' => r = .bool (c == e) ∧ h' = h := by
  refine fun_ok hm' Tryz.func107 (by kernel_rfl) (F107_eq _ _ _ _ h) ?_
  unfold F107
  refine ⟨fun (s : Value) h' => h' = h ∧ ∃ l', ErrC h s l' c, fun (s : Value) h' => lenE h' s, ⟨rfl, l, he⟩, ?_⟩
  rintro s _ h' ⟨hh, l', es⟩
  subst h'
  cases l' with
  | nil =>
    obtain rfl : s = .iface 31 (.int .i64 c) := (show s = errV c from es).trans (errV_ne hc)
    refine cut_q (fun _ h' => h' = h ∧ (c == e) = false) ?_ fun K4 k4 => ?_
    · rintro _ h' ⟨hh, hne⟩ _
      subst h'
      refine cut_q (fun _ h' => h' = h) ?_ fun K9 k9 => ?_
      · rintro _ h' hh _
        subst h'
        refine cut_q (fun (s : Bool × Value) h' => s = (false, .nilIface) ∧ h' = h) ?_ fun K27 k27 => ?_
        · rintro _ h' ⟨rfl, hh⟩ _
          subst h'
          refine br_f rfl (cut_q (fun (s : Bool × Value) h' => s = (false, .nilIface) ∧ h' = h) ?_ fun K33 k33 => ?_)
          · rintro _ h' ⟨rfl, hh⟩ _
            subst h'
            exact br_f rfl ⟨by rw [hne], rfl⟩
          · exact asI_f hasUlE (k33 _ h ⟨rfl, rfl⟩)
        · exact asI_f hasUnE (k27 _ h ⟨rfl, rfl⟩)
      · refine cut_q (fun (s : Value × Bool) h' => s = (.nilIface, false) ∧ h' = h) ?_ fun K18 k18 => ?_
        · rintro _ h' ⟨rfl, hh⟩ _
          subst h'
          exact br_f rfl (k9 () h rfl)
        · exact asI_f hasIsE (k18 _ h ⟨rfl, rfl⟩)
    · refine br_t rfl ⟨⟨.inr ⟨_, _, rfl⟩, .inr ⟨_, _, rfl⟩, fun e => nomatch e.1⟩, (c == e), eqEE c e, ?_⟩
      cases hce : (c == e) with
      | true => exact br_t rfl ⟨rfl, rfl⟩
      | false => exact br_f rfl (k4 () h ⟨rfl, hce⟩)
  | cons p l'' =>
    obtain ⟨op, at_⟩ := p
    have es0 := es
    obtain ⟨_, b, v', rfl, hb, ev⟩ := es
    refine cut_q (fun _ h' => h' = h) ?_ fun K4 k4 => ?_
    · rintro _ h' hh _
      subst h'
      refine cut_q (fun _ h' => h' = h) ?_ fun K9 k9 => ?_
      · rintro _ h' hh _
        subst h'
        refine cut_q (fun (s : Bool × Value) h' => s = (true, .iface 145 (.pointer (some ⟨b, 0, none⟩))) ∧ h' = h) ?_ fun K27 k27 => ?_
        · rintro _ h' ⟨rfl, hh⟩ _
          subst h'
          refine br_t rfl (inv_of (mUnw _) (.inl (unwrap_ok b op at_ v' h hb)) ?_)
          rintro r h2 ⟨hr, hh⟩
          subst hr hh
          have ok := ev.ok
          refine ⟨_, rfl, ⟨ok.1, br_f (by rw [ok.2]; simp [hc]) ⟨⟨rfl, _, ev⟩, ?_⟩⟩⟩
          show lenE _ _ < lenE _ _
          rw [lenE_of ev, lenE_of es0]
          simp
        · exact asI_t hasUnF (k27 _ h ⟨rfl, rfl⟩)
      · refine cut_q (fun (s : Value × Bool) h' => s = (.nilIface, false) ∧ h' = h) ?_ fun K18 k18 => ?_
        · rintro _ h' ⟨rfl, hh⟩ _
          subst h'
          exact br_f rfl (k9 () h rfl)
        · exact asI_f hasIsF (k18 _ h ⟨rfl, rfl⟩)
    · exact br_t rfl ⟨⟨.inr ⟨_, _, rfl⟩, .inr ⟨_, _, rfl⟩, fun e => nomatch e.1⟩, false, eqFE _ _, br_f rfl (k4 () h rfl)⟩
set_option maxRecDepth 20000 in
theorem Is_ok (v : Value) (l : List (ByteArray × Int)) (c e : Int) (h : Heap) (hn : e ≠ 0) (he : ErrC h v l c) :
    CallsH Tryz.prog 58 [v, .iface 31 (.int .i64 e)] h fun r h' => r = .bool (c == e) ∧ h' = h := by
  refine fun_ok hm' Tryz.func58 (by kernel_rfl) (F58_eq _ _ _ h) ?_
  unfold F58
  have ok := he.ok
  by_cases hc : c = 0
  · have hv : v = .nilIface := by
      cases l with
      | nil => exact (show v = errV c from he).trans (by rw [hc]; rfl)
      | cons p l => obtain ⟨_, _⟩ := p; exact absurd hc he.1
    subst hv hc
    refine cut_q (fun _ _ => False) (fun _ _ hf => hf.elim) fun K1 k1 => ?_
    refine ⟨.inl rfl, br_t rfl ⟨⟨.inl rfl, .inr ⟨_, _, rfl⟩, fun e => nomatch e.2⟩, false, eqN _ _, ?_⟩⟩
    refine ⟨?_, rfl⟩
    have : ((0 : Int) == e) = false := by simpa using fun x => hn x.symm
    rw [this]
  · refine cut_q (fun _ h' => h' = h) ?_ fun K1 k1 => ?_
    · rintro _ h' hh _
      subst h'
      refine ext_of (xTypeOfE _ h) ?_
      rintro r h1 ⟨rfl, hh⟩
      subst h1
      refine ⟨_, rfl, inv_of (mCmp _) (.inr (xCmpE h)) ?_⟩
      rintro r h1 ⟨rfl, hh⟩
      subst h1
      refine ⟨true, rfl, call_of (is_ok v l c e h hc he) ?_⟩
      rintro r h1 ⟨rfl, hh⟩
      subst h1
      exact ⟨_, rfl, rfl, rfl⟩
    · exact ⟨ok.1, br_f (by rw [ok.2]; simp [hc]) ⟨.inr ⟨_, _, rfl⟩, br_f rfl (k1 () h rfl)⟩⟩
end Go.Proofs.YthimfpkkdhpceaaGreatDoor.Err
/-
  Errors whose chain is new, or nobody's.
-/
namespace Go.Proofs.YthimfpkkdhpceaaGreatDoor.Err
open Go.Pl Go.Proofs.YthimfpkkdhpceaaGreatDoor.W Go.Proofs.YthimfpkkdhpceaaGreatDoor.As
/-- An error whose chain lies from block n on. -/
def ErrB (n : Nat) (h : Heap) : Value → List (ByteArray × Int) → Int → Prop
  | v, [], c => v = errV c
  | v, (op, at_) :: l, c => c ≠ 0 ∧ ∃ b v', n ≤ b ∧ v = .iface 145 (.pointer (some ⟨b, 0, none⟩)) ∧ Blk h b #[.string op, .int .i64 at_, v'] 147 ∧ ErrB n h v' l c
/-- An error whose chain belongs to nobody. -/
def ErrT (t : Tags) (h : Heap) : Value → List (ByteArray × Int) → Int → Prop
  | v, [], c => v = errV c
  | v, (op, at_) :: l, c => c ≠ 0 ∧ ∃ b v', (t b).1 = 0 ∧ v = .iface 145 (.pointer (some ⟨b, 0, none⟩)) ∧ Blk h b #[.string op, .int .i64 at_, v'] 147 ∧ ErrT t h v' l c
theorem ErrB.c {n : Nat} {h : Heap} : ∀ {v : Value} {l : List (ByteArray × Int)} {c : Int}, ErrB n h v l c → ErrC h v l c
  | _, [], _, e => e
  | _, (_, _) :: _, _, ⟨hc, b, v', _, e, hb, r⟩ => ⟨hc, b, v', e, hb, r.c⟩
theorem ErrT.c {t : Tags} {h : Heap} : ∀ {v : Value} {l : List (ByteArray × Int)} {c : Int}, ErrT t h v l c → ErrC h v l c
  | _, [], _, e => e
  | _, (_, _) :: _, _, ⟨hc, b, v', _, e, hb, r⟩ => ⟨hc, b, v', e, hb, r.c⟩
theorem ErrB.low {n m : Nat} {h : Heap} (hm : m ≤ n) : ∀ {v : Value} {l : List (ByteArray × Int)} {c : Int}, ErrB n h v l c → ErrB m h v l c
  | _, [], _, e => e
  | _, (_, _) :: _, _, ⟨hc, b, v', hb0, e, hb, r⟩ => ⟨hc, b, v', Nat.le_trans hm hb0, e, hb, r.low hm⟩
theorem ErrB.keep {n : Nat} {h h' : Heap} (hk : ∀ b arr, Blk h b arr 147 → h'[b]? = h[b]?) : ∀ {v : Value} {l : List (ByteArray × Int)} {c : Int}, ErrB n h v l c → ErrB n h' v l c
  | _, [], _, e => e
  | _, (_, _) :: _, _, ⟨hc, b, v', hb0, e, hb, r⟩ => ⟨hc, b, v', hb0, e, (hk b _ hb).trans hb, r.keep hk⟩
theorem ErrB.new {n : Nat} {h h' : Heap} (nn : New h h') {v : Value} {l : List (ByteArray × Int)} {c : Int} (e : ErrB n h v l c) : ErrB n h' v l c := e.keep fun b _ hb => nn.same b hb.lt
theorem ErrB.tag {n : Nat} {t : Tags} {h : Heap} {p : Nat × Nat} (hp : p.1 = 0) : ∀ {v : Value} {l : List (ByteArray × Int)} {c : Int}, ErrB n h v l c → ErrT (lay t n p) h v l c
  | _, [], _, e => e
  | _, (_, _) :: _, _, ⟨hc, b, v', hb0, e, hb, r⟩ => ⟨hc, b, v', by rw [lay_ge hb0]; exact hp, e, hb, r.tag hp⟩
theorem ErrT.fr {S : Nat × Nat → Prop} {t t' : Tags} {h h' : Heap} (s : Fr S t h t' h') (hS : ∀ p : Nat × Nat, p.1 = 0 → S p) : ∀ {v : Value} {l : List (ByteArray × Int)} {c : Int}, ErrT t h v l c → ErrT t' h' v l c
  | _, [], _, e => e
  | _, (_, _) :: _, _, ⟨hc, b, v', ht, e, hb, r⟩ => ⟨hc, b, v', by rw [s.tags b hb.lt]; exact ht, e, s.blk hb (hS _ ht), r.fr s hS⟩
theorem ErrT.new {t : Tags} {h h' : Heap} (n : New h h') {v : Value} {l : List (ByteArray × Int)} {c : Int} (e : ErrT t h v l c) : ErrT t h' v l c := e.fr (S := fun _ => True) (Fr.new0 n) fun _ _ => trivial
/-- What is wrapped: its chain is new. -/
theorem wrap_b (op : ByteArray) (at_ c : Int) (h : Heap) : CallsH Tryz.prog 35 [.string op, .int .i64 at_, errV c] h fun r h' => ∃ l, ErrB h.size h' r l c ∧ New h h' := by
  by_cases hc : c = 0
  · subst hc
    refine (wrap_nil op at_ h).mono ?_
    rintro r h' ⟨rfl, hh⟩; subst h'
    exact ⟨[], rfl, New.refl _⟩
  · refine fun_ok hm' Tryz.func35 (by kernel_rfl) (F35_eq _ _ _ _ h) ?_
    unfold F35
    have he : ErrC h (errV c) [] c := rfl
    have ok := he.ok
    refine cut_q (fun _ h' => h' = h) ?_ fun K1 k1 => ?_
    · rintro _ h' hh _
      subst h'
      refine ⟨(op, at_, errV c), builtF op at_ ok.1, new_of fun h1 b1 n1 _ => ?_⟩
      exact ⟨[(op, at_)], ⟨hc, h.size, errV c, Nat.le_refl _, rfl, b1, rfl⟩, n1⟩
    · refine ⟨ok.1, br_f (by rw [ok.2]; simp [hc]) ?_⟩
      rw [errV_ne hc]
      refine cut_q (fun (s : Bool × Int) h' => s = (true, c) ∧ h' = h) ?_ fun K2 k2 => ?_
      · rintro _ h' ⟨rfl, hh⟩ _
        subst h'
        exact br_t rfl (br_f (by simpa using hc) (k1 () h rfl))
      · exact ⟨c, rfl, k2 _ h ⟨rfl, rfl⟩⟩
end Go.Proofs.YthimfpkkdhpceaaGreatDoor.Err
/-
  The formulas of package ckpt. Each formula checked by the kernel. Printed by a program of this repo.
-/
namespace Go.Proofs.YthimfpkkdhpceaaGreatDoor.W
open Go.Pl

-- function 68
set_option maxRecDepth 100000 in
def F68 (c_0_0 : Int) (c_0_1 : Int) (c_0_2 : Int) (c_0_3 : Int) (c_0_4 : Int) (c_0_5 : Int) (c_0_6 : Option Addr) (c_0_6l c_0_6c : Nat) (K : Value → Heap → Prop) (h0 : Heap) : Prop := (
  newW (.cells #[.int .u32 c_0_0, .int .u32 c_0_1, .int .u32 c_0_2, .int .i64 c_0_3, .int .i64 c_0_4, .int .i64 c_0_5, .slice c_0_6 c_0_6l c_0_6c] 40) (fun a1 h2 =>
  ldAggW [.int .i64, .int .i64, .int .i64] (Addr.add a1 3) (fun (x3 : Int × Int × Int) =>
  callT Tryz.prog 98 [.agg #[.int .i64 x3.1, .int .i64 x3.2.1, .int .i64 x3.2.2]] [.sc .bool] (fun (r4 : Bool) h5 =>
  (br r4
  (ldW .slice (Addr.add a1 6) (fun (x6 : Option Addr × Nat × Nat) =>
  ldW (.int .i64) (Addr.add (Addr.add a1 3) 2) (fun (x7 : Int) =>
  callQ Tryz.prog 25 [.int .i64 x7] [.sc (.int .i64)] (fun (r8 : Int) =>
  K (.bool ((((x6.2.1 : Nat) : Int)) == r8)) h5) h5) h5) h5)
  (K (.bool false) h5) ∧ Ext h2 h5)) h2) h2) h0)
set_option maxRecDepth 100000 in
theorem F68_eq (c_0_0 : Int) (c_0_1 : Int) (c_0_2 : Int) (c_0_3 : Int) (c_0_4 : Int) (c_0_5 : Int) (c_0_6 : Option Addr) (c_0_6l c_0_6c : Nat) (K : Value → Heap → Prop) (h0 : Heap) : funWE Tryz.prog 68 (.seq (.leaf) (.seq (.draw (odp [0, 1, 2, 3, 4, 5, 6, 7, 8, 9, 10, 11, 12, 13] .nil) [100002, 10]) (.leaf))) [.agg #[.int .u32 c_0_0, .int .u32 c_0_1, .int .u32 c_0_2, .int .i64 c_0_3, .int .i64 c_0_4, .int .i64 c_0_5, .slice c_0_6 c_0_6l c_0_6c]] K h0 = F68 c_0_0 c_0_1 c_0_2 c_0_3 c_0_4 c_0_5 c_0_6 c_0_6l c_0_6c K h0 := by kernel_rfl

-- function 27
set_option maxRecDepth 100000 in
def F27 (a_0_0 : Int) (a_0_1 : Int) (a_0_2 : Int) (a_0_3 : Int) (a_0_4 : Int) (a_0_5 : Int) (a_0_6 : Option Addr) (a_0_6l a_0_6c : Nat) (b_1_0 : Int) (b_1_1 : Int) (b_1_2 : Int) (b_1_3 : Int) (b_1_4 : Int) (b_1_5 : Int) (b_1_6 : Option Addr) (b_1_6l b_1_6c : Nat) (K : Value → Heap → Prop) (h0 : Heap) : Prop := (
  newW (.cells #[.int .u32 a_0_0, .int .u32 a_0_1, .int .u32 a_0_2, .int .i64 a_0_3, .int .i64 a_0_4, .int .i64 a_0_5, .slice a_0_6 a_0_6l a_0_6c] 40) (fun a1 h2 =>
  newW (.cells #[.int .u32 b_1_0, .int .u32 b_1_1, .int .u32 b_1_2, .int .i64 b_1_3, .int .i64 b_1_4, .int .i64 b_1_5, .slice b_1_6 b_1_6l b_1_6c] 40) (fun a3 h4 =>
  ldW (.int .u32) (Addr.add a1 0) (fun (x5 : Int) =>
  ldW (.int .u32) (Addr.add a3 0) (fun (x6 : Int) =>
  br (x5 == x6)
  (ldW (.int .u32) (Addr.add a1 1) (fun (x7 : Int) =>
  ldW (.int .u32) (Addr.add a3 1) (fun (x8 : Int) =>
  br (x7 == x8)
  (ldW (.int .u32) (Addr.add a1 2) (fun (x9 : Int) =>
  ldW (.int .u32) (Addr.add a3 2) (fun (x10 : Int) =>
  br (x9 == x10)
  (ldAggW [.int .i64, .int .i64, .int .i64] (Addr.add a1 3) (fun (x11 : Int × Int × Int) =>
  ldAggW [.int .i64, .int .i64, .int .i64] (Addr.add a3 3) (fun (x12 : Int × Int × Int) =>
  eqGen Tryz.prog 37 (.agg #[.int .i64 x11.1, .int .i64 x11.2.1, .int .i64 x11.2.2]) (.agg #[.int .i64 x12.1, .int .i64 x12.2.1, .int .i64 x12.2.2]) (fun b13 =>
  br b13
  (ldW .slice (Addr.add a1 6) (fun (x14 : Option Addr × Nat × Nat) =>
  ldW .slice (Addr.add a3 6) (fun (x15 : Option Addr × Nat × Nat) =>
  callT Tryz.prog 62 [.slice x14.1 x14.2.1 x14.2.2, .slice x15.1 x15.2.1 x15.2.2] [.sc .bool] (fun (r16 : Bool) h17 =>
  K (.bool r16) h17) h4) h4) h4)
  (K (.bool false) h4))) h4) h4)
  (K (.bool false) h4)) h4) h4)
  (K (.bool false) h4)) h4) h4)
  (K (.bool false) h4)) h4) h4) h2) h0)
set_option maxRecDepth 100000 in
theorem F27_eq (a_0_0 : Int) (a_0_1 : Int) (a_0_2 : Int) (a_0_3 : Int) (a_0_4 : Int) (a_0_5 : Int) (a_0_6 : Option Addr) (a_0_6l a_0_6c : Nat) (b_1_0 : Int) (b_1_1 : Int) (b_1_2 : Int) (b_1_3 : Int) (b_1_4 : Int) (b_1_5 : Int) (b_1_6 : Option Addr) (b_1_6l b_1_6c : Nat) (K : Value → Heap → Prop) (h0 : Heap) : funWE Tryz.prog 27 (.seq (.leaf) (.seq (.leaf) (.leaf))) [.agg #[.int .u32 a_0_0, .int .u32 a_0_1, .int .u32 a_0_2, .int .i64 a_0_3, .int .i64 a_0_4, .int .i64 a_0_5, .slice a_0_6 a_0_6l a_0_6c], .agg #[.int .u32 b_1_0, .int .u32 b_1_1, .int .u32 b_1_2, .int .i64 b_1_3, .int .i64 b_1_4, .int .i64 b_1_5, .slice b_1_6 b_1_6l b_1_6c]] K h0 = F27 a_0_0 a_0_1 a_0_2 a_0_3 a_0_4 a_0_5 a_0_6 a_0_6l a_0_6c b_1_0 b_1_1 b_1_2 b_1_3 b_1_4 b_1_5 b_1_6 b_1_6l b_1_6c K h0 := by kernel_rfl

-- function 99
set_option maxRecDepth 100000 in
def F99 (blocks_0 : Int) (K : Value → Heap → Prop) (h0 : Heap) : Prop := (
  callT Tryz.prog 25 [.int .i64 blocks_0] [.sc (.int .i64)] (fun (r1 : Int) h2 =>
  K (.int .i64 (IntKind.wrap .i64 ((4 : Int) * (IntKind.wrap .i64 ((6 : Int) + r1))))) h2) h0)
set_option maxRecDepth 100000 in
theorem F99_eq (blocks_0 : Int) (K : Value → Heap → Prop) (h0 : Heap) : funWE Tryz.prog 99 (.seq (.leaf) (.seq (.leaf) (.leaf))) [.int .i64 blocks_0] K h0 = F99 blocks_0 K h0 := by kernel_rfl

-- function 72
set_option maxRecDepth 100000 in
def F72 (blocks_0 : Int) (K : Value → Heap → Prop) (h0 : Heap) : Prop := (
  callT Tryz.prog 99 [.int .i64 blocks_0] [.sc (.int .i64)] (fun (r1 : Int) h2 =>
  K (.int .i64 (IntKind.wrap .i64 (Int.tdiv (IntKind.wrap .i64 ((IntKind.wrap .i64 ((IntKind.wrap .i64 (r1 + (4 : Int))) + (16 : Int))) - (1 : Int))) (16 : Int)))) h2) h0)
set_option maxRecDepth 100000 in
theorem F72_eq (blocks_0 : Int) (K : Value → Heap → Prop) (h0 : Heap) : funWE Tryz.prog 72 (.seq (.leaf) (.seq (.leaf) (.leaf))) [.int .i64 blocks_0] K h0 = F72 blocks_0 K h0 := by kernel_rfl

-- function 69
set_option maxRecDepth 100000 in
def F69 (c_0_0 : Int) (c_0_1 : Int) (c_0_2 : Int) (c_0_3 : Int) (c_0_4 : Int) (c_0_5 : Int) (c_0_6 : Option Addr) (c_0_6l c_0_6c : Nat) (K : Value → Heap → Prop) (h0 : Heap) : Prop := (
  newW (.cells #[.int .u32 c_0_0, .int .u32 c_0_1, .int .u32 c_0_2, .int .i64 c_0_3, .int .i64 c_0_4, .int .i64 c_0_5, .slice c_0_6 c_0_6l c_0_6c] 40) (fun a1 h2 =>
  K (.func (.func 110) #[] #[.pointer (some a1)]) h2) h0)
set_option maxRecDepth 100000 in
theorem F69_eq (c_0_0 : Int) (c_0_1 : Int) (c_0_2 : Int) (c_0_3 : Int) (c_0_4 : Int) (c_0_5 : Int) (c_0_6 : Option Addr) (c_0_6l c_0_6c : Nat) (K : Value → Heap → Prop) (h0 : Heap) : funWE Tryz.prog 69 (.seq (.leaf) (.seq (.leaf) (.leaf))) [.agg #[.int .u32 c_0_0, .int .u32 c_0_1, .int .u32 c_0_2, .int .i64 c_0_3, .int .i64 c_0_4, .int .i64 c_0_5, .slice c_0_6 c_0_6l c_0_6c]] K h0 = F69 c_0_0 c_0_1 c_0_2 c_0_3 c_0_4 c_0_5 c_0_6 c_0_6l c_0_6c K h0 := by kernel_rfl

-- function 110
set_option maxRecDepth 100000 in
def F110 (yield_0 : Nat) (cap_0 : Addr) (K : Value → Heap → Prop) (h0 : Heap) : Prop := (
  ldW (.int .u32) (Addr.add cap_0 0) (fun (x1 : Int) =>
  ldW (.int .u32) (Addr.add cap_0 1) (fun (x2 : Int) =>
  ldW (.int .u32) (Addr.add cap_0 2) (fun (x3 : Int) =>
  ldW (.int .i64) (Addr.add (Addr.add cap_0 3) 0) (fun (x4 : Int) =>
  ldW (.int .i64) (Addr.add (Addr.add cap_0 3) 1) (fun (x5 : Int) =>
  ldW (.int .i64) (Addr.add (Addr.add cap_0 3) 2) (fun (x6 : Int) =>
  newW (.cells #[.int .u32 x1, .int .u32 x2, .int .u32 x3, .int .u32 (IntKind.wrap .u32 x4), .int .u32 (IntKind.wrap .u32 x5), .int .u32 (IntKind.wrap .u32 x6)] 35) (fun a7 h8 =>
  ldW .slice (Addr.add cap_0 6) (fun (x9 : Option Addr × Nat × Nat) =>
  newW (.cells #[.slice (some a7) 6 6, .slice x9.1 x9.2.1 x9.2.2] 38) (fun a10 h11 =>
  callT Tryz.prog 111 [.slice (some a10) 2 2] [.sc .slice] (fun (r12 : (Option Addr × Nat × Nat)) h13 =>
  loopT [.sc (.int .i64)] (fun (s15 : Int) _ (K14 : Int → Heap → Prop) h16 =>
  br (decide (s15 < (((r12.2.1 : Nat) : Int))))
  (ptrW r12.1 (fun a17 =>
  idxW s15 r12.2.1 true (ldW (.int .u32) (Addr.add a17 (Int.toNat s15 * 1)) (fun (x18 : Int) =>
  callW Tryz.prog (.sc .bool) (.func (.yield yield_0) #[] #[]) [.int .u32 x18] (fun (x19 : Bool) h20 =>
  br (!x19)
  (K (.tuple #[]) h20)
  (K14 (IntKind.wrap .i64 (s15 + (1 : Int))) h20)) h16) h16)))
  (K (.tuple #[]) h16)) (0 : Int) h13) h11) h8) h8) h0) h0) h0) h0) h0) h0) h0)
set_option maxRecDepth 100000 in
theorem F110_eq (yield_0 : Nat) (cap_0 : Addr) (K : Value → Heap → Prop) (h0 : Heap) : funWE Tryz.prog 110 (.seq (.leaf) (.seq (.leaf) (.block (.loop [(31, .sc (.int .i64))] (.seq (.leaf) (.seq (.cond (.leaf) (.leaf)) (.seq (.block (.seq (.leaf) (.seq (.leaf) (.cond (.leaf) (.leaf))))) (.leaf)))))))) [.func (.yield yield_0) #[] #[], .pointer (some cap_0)] K h0 = F110 yield_0 cap_0 K h0 := by kernel_rfl

-- function 70
set_option maxRecDepth 100000 in
def F70 (b_0 : Option Addr) (b_0l b_0c : Nat) (n_1 : Int) (K : Value → Heap → Prop) (h0 : Heap) : Prop := (
  loopT [.sc .slice, .sc (.int .i64)] (fun (s2 : (Option Addr × Nat × Nat) × Int) _ (K1 : ((Option Addr × Nat × Nat) × Int) → Heap → Prop) h3 =>
  br (decide (s2.2 < (4 : Int)))
  (ckB (decide (0 ≤ (IntKind.wrap .i64 ((8 : Int) * s2.2)))) (newW (.cells #[.int .u8 (IntKind.wrap .u8 (Int.fdiv n_1 (2 ^ (min ((IntKind.wrap .i64 ((8 : Int) * s2.2))).toNat 32))))] 5) (fun a4 h5 =>
  apW Tryz.prog #[68, 68] #[.slice s2.1.1 s2.1.2.1 s2.1.2.2, .slice (some a4) 1 1] (fun b6 n7 c8 h9 =>
  K1 ((b6, n7, c8), (IntKind.wrap .i64 (s2.2 + (1 : Int)))) h9) h5) h3))
  (K (.slice s2.1.1 s2.1.2.1 s2.1.2.2) h3)) ((b_0, b_0l, b_0c), (0 : Int)) h0)
set_option maxRecDepth 100000 in
theorem F70_eq (b_0 : Option Addr) (b_0l b_0c : Nat) (n_1 : Int) (K : Value → Heap → Prop) (h0 : Heap) : funWE Tryz.prog 70 (.seq (.leaf) (.seq (.seq (.leaf) (.block (.loop [(0, .sc .slice), (6, .sc (.int .i64))] (.seq (.leaf) (.seq (.cond (.leaf) (.leaf)) (.seq (.block (.seq (.leaf) (.leaf))) (.leaf))))))) (.seq (.leaf) (.leaf)))) [.slice b_0 b_0l b_0c, .int .u32 n_1] K h0 = F70 b_0 b_0l b_0c n_1 K h0 := by kernel_rfl

-- function 97
set_option maxRecDepth 100000 in
def F97 (b_0 : Option Addr) (_b_0l b_0c : Nat) (at_1 : Int) (K : Value → Heap → Prop) (h0 : Heap) : Prop := (
  slW b_0 b_0c 1 (IntKind.wrap .i64 ((4 : Int) * at_1)) (IntKind.wrap .i64 ((IntKind.wrap .i64 ((4 : Int) * at_1)) + (4 : Int))) (((b_0c : Nat) : Int)) (fun b1 n2 _c3 =>
  loopT [.sc (.int .u32), .sc (.int .i64)] (fun (s5 : Int × Int) _ (K4 : (Int × Int) → Heap → Prop) h6 =>
  br (decide (s5.2 < (((n2 : Nat) : Int))))
  (ptrW b1 (fun a7 =>
  idxW s5.2 n2 true (ldW (.int .u8) (Addr.add a7 (Int.toNat s5.2 * 1)) (fun (x8 : Int) =>
  ckB (decide (0 ≤ (IntKind.wrap .i64 ((8 : Int) * s5.2)))) (K4 ((IntKind.wrap .u32 (((BitVec.ofInt 32 s5.1 ||| BitVec.ofInt 32 (IntKind.wrap .u32 ((IntKind.wrap .u32 x8) * 2 ^ (min ((IntKind.wrap .i64 ((8 : Int) * s5.2))).toNat 32)))).toNat : Int))), (IntKind.wrap .i64 (s5.2 + (1 : Int)))) h6)) h6)))
  (K (.int .u32 s5.1) h6)) ((0 : Int), (0 : Int)) h0))
set_option maxRecDepth 100000 in
theorem F97_eq (b_0 : Option Addr) (b_0l b_0c : Nat) (at_1 : Int) (K : Value → Heap → Prop) (h0 : Heap) : funWE Tryz.prog 97 (.seq (.leaf) (.seq (.leaf) (.seq (.seq (.leaf) (.block (.loop [(5, .sc (.int .u32)), (16, .sc (.int .i64))] (.seq (.leaf) (.seq (.cond (.leaf) (.leaf)) (.seq (.block (.seq (.leaf) (.leaf))) (.leaf))))))) (.seq (.leaf) (.leaf))))) [.slice b_0 b_0l b_0c, .int .i64 at_1] K h0 = F97 b_0 b_0l b_0c at_1 K h0 := by kernel_rfl

-- function 95
set_option maxRecDepth 100000 in
def F95 (_b_0 : Option Addr) (b_0l _b_0c : Nat) (K : Value → Heap → Prop) (h0 : Heap) : Prop := (
  K (.bool ((((b_0l : Nat) : Int)) != (16 : Int))) h0)
set_option maxRecDepth 100000 in
theorem F95_eq (b_0 : Option Addr) (b_0l b_0c : Nat) (K : Value → Heap → Prop) (h0 : Heap) : funWE Tryz.prog 95 (.seq (.leaf) (.seq (.leaf) (.leaf))) [.slice b_0 b_0l b_0c] K h0 = F95 b_0 b_0l b_0c K h0 := by kernel_rfl

-- function 101
set_option maxRecDepth 100000 in
def F101 (x_0 : Int) (K : Value → Heap → Prop) (h0 : Heap) : Prop := (
  K (.bool (x_0 != (0 : Int))) h0)
set_option maxRecDepth 100000 in
theorem F101_eq (x_0 : Int) (K : Value → Heap → Prop) (h0 : Heap) : funWE Tryz.prog 101 (.seq (.leaf) (.seq (.leaf) (.leaf))) [.int .u8 x_0] K h0 = F101 x_0 K h0 := by kernel_rfl

-- function 62
set_option maxRecDepth 100000 in
def F62 (s1_0 : Option Addr) (s1_0l _s1_0c : Nat) (s2_1 : Option Addr) (s2_1l _s2_1c : Nat) (K : Value → Heap → Prop) (h0 : Heap) : Prop := (
  br ((((s1_0l : Nat) : Int)) != (((s2_1l : Nat) : Int)))
  (K (.bool false) h0)
  (loopT [.sc (.int .i64)] (fun (s2 : Int) _ (K1 : Int → Heap → Prop) h3 =>
  br (decide (s2 < (((s1_0l : Nat) : Int))))
  (ptrW s1_0 (fun a4 =>
  idxW s2 s1_0l true (ldW (.int .u32) (Addr.add a4 (Int.toNat s2 * 1)) (fun (x5 : Int) =>
  ptrW s2_1 (fun a6 =>
  idxW s2 s2_1l true (ldW (.int .u32) (Addr.add a6 (Int.toNat s2 * 1)) (fun (x7 : Int) =>
  br (x5 != x7)
  (K (.bool false) h3)
  (K1 (IntKind.wrap .i64 (s2 + (1 : Int))) h3)) h3))) h3)))
  (K (.bool true) h3)) (0 : Int) h0))
set_option maxRecDepth 100000 in
theorem F62_eq (s1_0 : Option Addr) (s1_0l s1_0c : Nat) (s2_1 : Option Addr) (s2_1l s2_1c : Nat) (K : Value → Heap → Prop) (h0 : Heap) : funWE Tryz.prog 62 (.seq (.leaf) (.seq (.seq (.leaf) (.cond (.seq (.leaf) (.leaf)) (.leaf))) (.seq (.seq (.leaf) (.block (.loop [(13, .sc (.int .i64))] (.seq (.leaf) (.seq (.cond (.leaf) (.leaf)) (.seq (.block (.seq (.leaf) (.seq (.draw (odp [0, 1, 2, 3, 4, 5, 6, 7, 8] .nil) []) (.cond (.seq (.leaf) (.leaf)) (.leaf))))) (.leaf))))))) (.seq (.leaf) (.leaf))))) [.slice s1_0 s1_0l s1_0c, .slice s2_1 s2_1l s2_1c] K h0 = F62 s1_0 s1_0l s1_0c s2_1 s2_1l s2_1c K h0 := by kernel_rfl

-- function 118
set_option maxRecDepth 100000 in
def F118 (s_0 : Option Addr) (s_0l _s_0c : Nat) (f_1 : Value) (K : Value → Heap → Prop) (h0 : Heap) : Prop := (
  loopT [.sc (.int .i64)] (fun (s2 : Int) _ (K1 : Int → Heap → Prop) h3 =>
  br (decide (s2 < (((s_0l : Nat) : Int))))
  (ptrW s_0 (fun a4 =>
  idxW s2 s_0l true (ldW .slice (Addr.add a4 (Int.toNat s2 * 1)) (fun (x5 : Option Addr × Nat × Nat) =>
  callW Tryz.prog (.sc .bool) f_1 [.slice x5.1 x5.2.1 x5.2.2] (fun (x6 : Bool) h7 =>
  br x6
  (K (.int .i64 s2) h7)
  (K1 (IntKind.wrap .i64 (s2 + (1 : Int))) h7)) h3) h3)))
  (K (.int .i64 (-1)) h3)) (0 : Int) h0)
set_option maxRecDepth 100000 in
theorem F118_eq (s_0 : Option Addr) (s_0l s_0c : Nat) (f_1 : Value) (K : Value → Heap → Prop) (h0 : Heap) : funWE Tryz.prog 118 (.seq (.leaf) (.seq (.seq (.leaf) (.block (.loop [(8, .sc (.int .i64))] (.seq (.leaf) (.seq (.cond (.leaf) (.leaf)) (.seq (.block (.seq (.leaf) (.seq (.leaf) (.cond (.seq (.leaf) (.leaf)) (.leaf))))) (.leaf))))))) (.seq (.leaf) (.leaf)))) [.slice s_0 s_0l s_0c, f_1] K h0 = F118 s_0 s_0l s_0c f_1 K h0 := by kernel_rfl

-- function 121
set_option maxRecDepth 100000 in
def F121 (s_0 : Option Addr) (s_0l _s_0c : Nat) (f_1 : Value) (K : Value → Heap → Prop) (h0 : Heap) : Prop := (
  loopT [.sc (.int .i64)] (fun (s2 : Int) _ (K1 : Int → Heap → Prop) h3 =>
  br (decide (s2 < (((s_0l : Nat) : Int))))
  (ptrW s_0 (fun a4 =>
  idxW s2 s_0l true (ldW (.int .u8) (Addr.add a4 (Int.toNat s2 * 1)) (fun (x5 : Int) =>
  callW Tryz.prog (.sc .bool) f_1 [.int .u8 x5] (fun (x6 : Bool) h7 =>
  br x6
  (K (.int .i64 s2) h7)
  (K1 (IntKind.wrap .i64 (s2 + (1 : Int))) h7)) h3) h3)))
  (K (.int .i64 (-1)) h3)) (0 : Int) h0)
set_option maxRecDepth 100000 in
theorem F121_eq (s_0 : Option Addr) (s_0l s_0c : Nat) (f_1 : Value) (K : Value → Heap → Prop) (h0 : Heap) : funWE Tryz.prog 121 (.seq (.leaf) (.seq (.seq (.leaf) (.block (.loop [(8, .sc (.int .i64))] (.seq (.leaf) (.seq (.cond (.leaf) (.leaf)) (.seq (.block (.seq (.leaf) (.seq (.leaf) (.cond (.seq (.leaf) (.leaf)) (.leaf))))) (.leaf))))))) (.seq (.leaf) (.leaf)))) [.slice s_0 s_0l s_0c, f_1] K h0 = F121 s_0 s_0l s_0c f_1 K h0 := by kernel_rfl

-- function 94
set_option maxRecDepth 100000 in
def F94 (s_0 : Option Addr) (s_0l s_0c : Nat) (f_1 : Value) (K : Value → Heap → Prop) (h0 : Heap) : Prop := (
  callT Tryz.prog 118 [.slice s_0 s_0l s_0c, f_1] [.sc (.int .i64)] (fun (r1 : Int) h2 =>
  K (.bool (decide (r1 ≥ (0 : Int)))) h2) h0)
set_option maxRecDepth 100000 in
theorem F94_eq (s_0 : Option Addr) (s_0l s_0c : Nat) (f_1 : Value) (K : Value → Heap → Prop) (h0 : Heap) : funWE Tryz.prog 94 (.seq (.leaf) (.seq (.leaf) (.leaf))) [.slice s_0 s_0l s_0c, f_1] K h0 = F94 s_0 s_0l s_0c f_1 K h0 := by kernel_rfl

-- function 100
set_option maxRecDepth 100000 in
def F100 (s_0 : Option Addr) (s_0l s_0c : Nat) (f_1 : Value) (K : Value → Heap → Prop) (h0 : Heap) : Prop := (
  callT Tryz.prog 121 [.slice s_0 s_0l s_0c, f_1] [.sc (.int .i64)] (fun (r1 : Int) h2 =>
  K (.bool (decide (r1 ≥ (0 : Int)))) h2) h0)
set_option maxRecDepth 100000 in
theorem F100_eq (s_0 : Option Addr) (s_0l s_0c : Nat) (f_1 : Value) (K : Value → Heap → Prop) (h0 : Heap) : funWE Tryz.prog 100 (.seq (.leaf) (.seq (.leaf) (.leaf))) [.slice s_0 s_0l s_0c, f_1] K h0 = F100 s_0 s_0l s_0c f_1 K h0 := by kernel_rfl

-- function 119
set_option maxRecDepth 100000 in
def F119 (s_0 : Option Addr) (s_0l s_0c : Nat) (n_1 : Int) (K : Value → Heap → Prop) (h0 : Heap) : Prop := (
  cutT [] (fun (K1 : Unit → Heap → Prop) h2 =>
  br (decide (n_1 < (0 : Int)))
  (False)
  (K1 () h2)) (fun (_s3 : Unit) _ h4 =>
  br (decide ((IntKind.wrap .i64 (n_1 - (IntKind.wrap .i64 ((((s_0c : Nat) : Int)) - (((s_0l : Nat) : Int)))))) > (0 : Int)))
  (slW s_0 s_0c 1 (0 : Int) (((s_0c : Nat) : Int)) (((s_0c : Nat) : Int)) (fun b5 n6 c7 =>
  apW Tryz.prog #[68, 3] #[.slice b5 n6 c7, .int .i64 (IntKind.wrap .i64 (n_1 - (IntKind.wrap .i64 ((((s_0c : Nat) : Int)) - (((s_0l : Nat) : Int))))))] (fun b8 _n9 c10 h11 =>
  slW b8 c10 1 (0 : Int) (((s_0l : Nat) : Int)) (((c10 : Nat) : Int)) (fun b12 n13 c14 =>
  K (.slice b12 n13 c14) h11)) h4))
  (K (.slice s_0 s_0l s_0c) h4)) h0)
set_option maxRecDepth 100000 in
theorem F119_eq (s_0 : Option Addr) (s_0l s_0c : Nat) (n_1 : Int) (K : Value → Heap → Prop) (h0 : Heap) : funWE Tryz.prog 119 (.seq (.leaf) (.cut [] (.seq (.leaf) (.cond (.leaf) (.leaf))) (.seq (.seq (.leaf) (.seq (.leaf) (.cond (.leaf) (.leaf)))) (.seq (.leaf) (.leaf))))) [.slice s_0 s_0l s_0c, .int .i64 n_1] K h0 = F119 s_0 s_0l s_0c n_1 K h0 := by kernel_rfl

-- function 122
set_option maxRecDepth 100000 in
def F122 (s_0 : Option Addr) (s_0l s_0c : Nat) (n_1 : Int) (K : Value → Heap → Prop) (h0 : Heap) : Prop := (
  cutT [] (fun (K1 : Unit → Heap → Prop) h2 =>
  br (decide (n_1 < (0 : Int)))
  (False)
  (K1 () h2)) (fun (_s3 : Unit) _ h4 =>
  br (decide ((IntKind.wrap .i64 (n_1 - (IntKind.wrap .i64 ((((s_0c : Nat) : Int)) - (((s_0l : Nat) : Int)))))) > (0 : Int)))
  (slW s_0 s_0c 1 (0 : Int) (((s_0c : Nat) : Int)) (((s_0c : Nat) : Int)) (fun b5 n6 c7 =>
  apW Tryz.prog #[38, 3] #[.slice b5 n6 c7, .int .i64 (IntKind.wrap .i64 (n_1 - (IntKind.wrap .i64 ((((s_0c : Nat) : Int)) - (((s_0l : Nat) : Int))))))] (fun b8 _n9 c10 h11 =>
  slW b8 c10 1 (0 : Int) (((s_0l : Nat) : Int)) (((c10 : Nat) : Int)) (fun b12 n13 c14 =>
  K (.slice b12 n13 c14) h11)) h4))
  (K (.slice s_0 s_0l s_0c) h4)) h0)
set_option maxRecDepth 100000 in
theorem F122_eq (s_0 : Option Addr) (s_0l s_0c : Nat) (n_1 : Int) (K : Value → Heap → Prop) (h0 : Heap) : funWE Tryz.prog 122 (.seq (.leaf) (.cut [] (.seq (.leaf) (.cond (.leaf) (.leaf))) (.seq (.seq (.leaf) (.seq (.leaf) (.cond (.leaf) (.leaf)))) (.seq (.leaf) (.leaf))))) [.slice s_0 s_0l s_0c, .int .i64 n_1] K h0 = F122 s_0 s_0l s_0c n_1 K h0 := by kernel_rfl

-- function 96
set_option maxRecDepth 100000 in
def F96 (slices_0 : Option Addr) (slices_0l _slices_0c : Nat) (K : Value → Heap → Prop) (h0 : Heap) : Prop := (
  loopT [.sc (.int .i64), .sc (.int .i64)] (fun (s2 : Int × Int) _ (K1 : (Int × Int) → Heap → Prop) h3 =>
  br (decide (s2.2 < (((slices_0l : Nat) : Int))))
  (ptrW slices_0 (fun a4 =>
  idxW s2.2 slices_0l true (ldW .slice (Addr.add a4 (Int.toNat s2.2 * 1)) (fun (x5 : Option Addr × Nat × Nat) =>
  br (decide ((IntKind.wrap .i64 (s2.1 + (((x5.2.1 : Nat) : Int)))) < (0 : Int)))
  (False)
  (K1 ((IntKind.wrap .i64 (s2.1 + (((x5.2.1 : Nat) : Int)))), (IntKind.wrap .i64 (s2.2 + (1 : Int)))) h3)) h3)))
  (callT Tryz.prog 119 [.slice none 0 0, .int .i64 s2.1] [.sc .slice] (fun (r6 : (Option Addr × Nat × Nat)) h7 =>
  loopT [.sc .slice, .sc (.int .i64)] (fun (s9 : (Option Addr × Nat × Nat) × Int) _ (K8 : ((Option Addr × Nat × Nat) × Int) → Heap → Prop) h10 =>
  br (decide (s9.2 < (((slices_0l : Nat) : Int))))
  (ptrW slices_0 (fun a11 =>
  idxW s9.2 slices_0l true (ldW .slice (Addr.add a11 (Int.toNat s9.2 * 1)) (fun (x12 : Option Addr × Nat × Nat) =>
  apW Tryz.prog #[68, 68] #[.slice s9.1.1 s9.1.2.1 s9.1.2.2, .slice x12.1 x12.2.1 x12.2.2] (fun b13 n14 c15 h16 =>
  K8 ((b13, n14, c15), (IntKind.wrap .i64 (s9.2 + (1 : Int)))) h16) h10) h10)))
  (K (.slice s9.1.1 s9.1.2.1 s9.1.2.2) h10)) ((r6.1, r6.2.1, r6.2.2), (0 : Int)) h7) h3)) ((0 : Int), (0 : Int)) h0)
set_option maxRecDepth 100000 in
theorem F96_eq (slices_0 : Option Addr) (slices_0l slices_0c : Nat) (K : Value → Heap → Prop) (h0 : Heap) : funWE Tryz.prog 96 (.seq (.leaf) (.seq (.leaf) (.seq (.seq (.leaf) (.block (.loop [(3, .sc (.int .i64)), (11, .sc (.int .i64))] (.seq (.leaf) (.seq (.cond (.leaf) (.leaf)) (.seq (.block (.seq (.leaf) (.seq (.leaf) (.seq (.leaf) (.cond (.leaf) (.leaf)))))) (.leaf))))))) (.seq (.leaf) (.seq (.seq (.leaf) (.block (.loop [(6, .sc .slice), (27, .sc (.int .i64))] (.seq (.leaf) (.seq (.cond (.leaf) (.leaf)) (.seq (.block (.seq (.leaf) (.leaf))) (.leaf))))))) (.seq (.leaf) (.leaf))))))) [.slice slices_0 slices_0l slices_0c] K h0 = F96 slices_0 slices_0l slices_0c K h0 := by kernel_rfl

-- function 111
set_option maxRecDepth 100000 in
def F111 (slices_0 : Option Addr) (slices_0l _slices_0c : Nat) (K : Value → Heap → Prop) (h0 : Heap) : Prop := (
  loopT [.sc (.int .i64), .sc (.int .i64)] (fun (s2 : Int × Int) _ (K1 : (Int × Int) → Heap → Prop) h3 =>
  br (decide (s2.2 < (((slices_0l : Nat) : Int))))
  (ptrW slices_0 (fun a4 =>
  idxW s2.2 slices_0l true (ldW .slice (Addr.add a4 (Int.toNat s2.2 * 1)) (fun (x5 : Option Addr × Nat × Nat) =>
  br (decide ((IntKind.wrap .i64 (s2.1 + (((x5.2.1 : Nat) : Int)))) < (0 : Int)))
  (False)
  (K1 ((IntKind.wrap .i64 (s2.1 + (((x5.2.1 : Nat) : Int)))), (IntKind.wrap .i64 (s2.2 + (1 : Int)))) h3)) h3)))
  (callT Tryz.prog 122 [.slice none 0 0, .int .i64 s2.1] [.sc .slice] (fun (r6 : (Option Addr × Nat × Nat)) h7 =>
  loopT [.sc .slice, .sc (.int .i64)] (fun (s9 : (Option Addr × Nat × Nat) × Int) _ (K8 : ((Option Addr × Nat × Nat) × Int) → Heap → Prop) h10 =>
  br (decide (s9.2 < (((slices_0l : Nat) : Int))))
  (ptrW slices_0 (fun a11 =>
  idxW s9.2 slices_0l true (ldW .slice (Addr.add a11 (Int.toNat s9.2 * 1)) (fun (x12 : Option Addr × Nat × Nat) =>
  apW Tryz.prog #[38, 38] #[.slice s9.1.1 s9.1.2.1 s9.1.2.2, .slice x12.1 x12.2.1 x12.2.2] (fun b13 n14 c15 h16 =>
  K8 ((b13, n14, c15), (IntKind.wrap .i64 (s9.2 + (1 : Int)))) h16) h10) h10)))
  (K (.slice s9.1.1 s9.1.2.1 s9.1.2.2) h10)) ((r6.1, r6.2.1, r6.2.2), (0 : Int)) h7) h3)) ((0 : Int), (0 : Int)) h0)
set_option maxRecDepth 100000 in
theorem F111_eq (slices_0 : Option Addr) (slices_0l slices_0c : Nat) (K : Value → Heap → Prop) (h0 : Heap) : funWE Tryz.prog 111 (.seq (.leaf) (.seq (.leaf) (.seq (.seq (.leaf) (.block (.loop [(3, .sc (.int .i64)), (11, .sc (.int .i64))] (.seq (.leaf) (.seq (.cond (.leaf) (.leaf)) (.seq (.block (.seq (.leaf) (.seq (.leaf) (.seq (.leaf) (.cond (.leaf) (.leaf)))))) (.leaf))))))) (.seq (.leaf) (.seq (.seq (.leaf) (.block (.loop [(6, .sc .slice), (27, .sc (.int .i64))] (.seq (.leaf) (.seq (.cond (.leaf) (.leaf)) (.seq (.block (.seq (.leaf) (.leaf))) (.leaf))))))) (.seq (.leaf) (.leaf))))))) [.slice slices_0 slices_0l slices_0c] K h0 = F111 slices_0 slices_0l slices_0c K h0 := by kernel_rfl

-- function 74
set_option maxRecDepth 100000 in
def F74 (s_0 : Option Addr) (s_0l s_0c : Nat) (n_1 : Int) (K : Value → Heap → Prop) (h0 : Heap) : Prop := (
  newW (.cells #[.slice s_0 s_0l s_0c] 68) (fun a1 h2 =>
  newW (.cells #[.int .i64 n_1] 3) (fun a3 h4 =>
  ldW (.int .i64) a3 (fun (x5 : Int) =>
  br (decide (x5 < (1 : Int)))
  (False)
  (K (.func (.func 113) #[] #[.pointer (some a1), .pointer (some a3)]) h4)) h4) h2) h0)
set_option maxRecDepth 100000 in
theorem F74_eq (s_0 : Option Addr) (s_0l s_0c : Nat) (n_1 : Int) (K : Value → Heap → Prop) (h0 : Heap) : funWE Tryz.prog 74 (.seq (.leaf) (.seq (.seq (.leaf) (.cond (.leaf) (.leaf))) (.seq (.leaf) (.leaf)))) [.slice s_0 s_0l s_0c, .int .i64 n_1] K h0 = F74 s_0 s_0l s_0c n_1 K h0 := by kernel_rfl

-- function 113
set_option maxRecDepth 100000 in
def F113 (yield_0 : Nat) (cap_0 : Addr) (cap_1 : Addr) (K : Value → Heap → Prop) (h0 : Heap) : Prop := (
  loopT [.sc (.int .i64)] (fun (s2 : Int) _ (K1 : Int → Heap → Prop) h3 =>
  ldW .slice cap_0 (fun (x4 : Option Addr × Nat × Nat) =>
  br (decide (s2 < (((x4.2.1 : Nat) : Int))))
  (ldW (.int .i64) cap_1 (fun (x5 : Int) =>
  ldW .slice cap_0 (fun (x6 : Option Addr × Nat × Nat) =>
  slW x6.1 x6.2.2 1 s2 (((x6.2.1 : Nat) : Int)) (((x6.2.2 : Nat) : Int)) (fun _b7 n8 _c9 =>
  ldW .slice cap_0 (fun (x10 : Option Addr × Nat × Nat) =>
  slW x10.1 x10.2.2 1 s2 (IntKind.wrap .i64 (s2 + (mm2 false x5 (((n8 : Nat) : Int))))) (IntKind.wrap .i64 (s2 + (mm2 false x5 (((n8 : Nat) : Int))))) (fun b11 n12 c13 =>
  callW Tryz.prog (.sc .bool) (.func (.yield yield_0) #[] #[]) [.slice b11 n12 c13] (fun (x14 : Bool) h15 =>
  br (!x14)
  (K (.tuple #[]) h15)
  (ldW (.int .i64) cap_1 (fun (x16 : Int) =>
  K1 (IntKind.wrap .i64 (s2 + x16)) h15) h15)) h3)) h3)) h3) h3)
  (K (.tuple #[]) h3)) h3) (0 : Int) h0)
set_option maxRecDepth 100000 in
theorem F113_eq (yield_0 : Nat) (cap_0 : Addr) (cap_1 : Addr) (K : Value → Heap → Prop) (h0 : Heap) : funWE Tryz.prog 113 (.seq (.leaf) (.block (.loop [(4, .sc (.int .i64))] (.seq (.seq (.leaf) (.cond (.leaf) (.leaf))) (.seq (.block (.seq (.draw (odp [0, 1, 2, 3, 4, 5, 6] .nil) []) (.seq (.leaf) (.cond (.leaf) (.leaf))))) (.leaf)))))) [.func (.yield yield_0) #[] #[], .pointer (some cap_0), .pointer (some cap_1)] K h0 = F113 yield_0 cap_0 cap_1 K h0 := by kernel_rfl

-- function 112
set_option maxRecDepth 100000 in
def F112 (s_0 : Option Addr) (s_0l s_0c : Nat) (seq_1 : Value) (K : Value → Heap → Prop) (h0 : Heap) : Prop := (
  newW (.cells #[.slice s_0 s_0l s_0c] 67) (fun a1 h2 =>
  rfW seq_1 (fun n26 x27 x28 =>
  rangeW Tryz.prog n26 x27 x28 [.sc .slice] (fun l3 o4 (s5 : (Option Addr × Nat × Nat)) Y6 h7 =>
  roundIn l3 o4 (fun h9 =>
  ldW .slice a1 (fun (x11 : Option Addr × Nat × Nat) =>
  newW (.cells #[.slice s5.1 s5.2.1 s5.2.2] 68) (fun a12 h13 =>
  apW Tryz.prog #[67, 67] #[.slice x11.1 x11.2.1 x11.2.2, .slice (some a12) 1 1] (fun b14 n15 c16 h17 =>
  stW a1 (.slice b14 n15 c16) (fun h18 =>
  roundEnd l3 o4.rdy (Y6 true) h18) h17) h13) h9) h9) h7) (fun l24 o25 h19 =>
  (roundDone l24 o25.rdy (fun h20 =>
  ldW .slice a1 (fun (x21 : Option Addr × Nat × Nat) =>
  (∀ h22, Taken h0.size h20 h22 →
  K (.slice x21.1 x21.2.1 x21.2.2) h22)) h20) h19) ∨
  (roundDone l24 (o25.dn .ret) (fun h20 =>
  (∀ h23, Taken h0.size h20 h23 →
  K (.slice none 0 0) h23)) h19) ∨ False) h2)) h0)
set_option maxRecDepth 100000 in
theorem F112_eq (s_0 : Option Addr) (s_0l s_0c : Nat) (seq_1 : Value) (K : Value → Heap → Prop) (h0 : Heap) : funWE Tryz.prog 112 (.seq (.leaf) (.seq (.seq (.leaf) (.block (.range [.sc .slice] [] (.leaf) (.block (.leaf))))) (.seq (.leaf) (.leaf)))) [.slice s_0 s_0l s_0c, seq_1] K h0 = F112 s_0 s_0l s_0c seq_1 K h0 := by kernel_rfl

-- function 73
set_option maxRecDepth 100000 in
def F73 (seq_0 : Value) (K : Value → Heap → Prop) (h0 : Heap) : Prop := (
  callT Tryz.prog 112 [.slice none 0 0, seq_0] [.sc .slice] (fun (r1 : (Option Addr × Nat × Nat)) h2 =>
  K (.slice r1.1 r1.2.1 r1.2.2) h2) h0)
set_option maxRecDepth 100000 in
theorem F73_eq (seq_0 : Value) (K : Value → Heap → Prop) (h0 : Heap) : funWE Tryz.prog 73 (.seq (.leaf) (.seq (.leaf) (.leaf))) [seq_0] K h0 = F73 seq_0 K h0 := by kernel_rfl

-- function 32
set_option maxRecDepth 100000 in
def F32 (c_0_0 : Int) (c_0_1 : Int) (c_0_2 : Int) (c_0_3 : Int) (c_0_4 : Int) (c_0_5 : Int) (c_0_6 : Option Addr) (c_0_6l c_0_6c : Nat) (K : Value → Heap → Prop) (h0 : Heap) : Prop := (
  newW (.cells #[.int .u32 c_0_0, .int .u32 c_0_1, .int .u32 c_0_2, .int .i64 c_0_3, .int .i64 c_0_4, .int .i64 c_0_5, .slice c_0_6 c_0_6l c_0_6c] 40) (fun a1 h2 =>
  ldAggW [.int .u32, .int .u32, .int .u32, .int .i64, .int .i64, .int .i64, .slice] a1 (fun (x3 : Int × Int × Int × Int × Int × Int × (Option Addr × Nat × Nat)) =>
  callT Tryz.prog 68 [.agg #[.int .u32 x3.1, .int .u32 x3.2.1, .int .u32 x3.2.2.1, .int .i64 x3.2.2.2.1, .int .i64 x3.2.2.2.2.1, .int .i64 x3.2.2.2.2.2.1, .slice x3.2.2.2.2.2.2.1 x3.2.2.2.2.2.2.2.1 x3.2.2.2.2.2.2.2.2]] [.sc .bool] (fun (r4 : Bool) h5 =>
  br (!r4)
  ((∀ h6, Taken h0.size h5 h6 →
  K (.tuple #[.slice none 0 0, .iface 31 (.int .i64 1)]) h6))
  (newW (.cells (zeroC Tryz.prog 68) 68) (fun a7 h8 =>
  ldAggW [.int .u32, .int .u32, .int .u32, .int .i64, .int .i64, .int .i64, .slice] a1 (fun (x9 : Int × Int × Int × Int × Int × Int × (Option Addr × Nat × Nat)) =>
  callT Tryz.prog 69 [.agg #[.int .u32 x9.1, .int .u32 x9.2.1, .int .u32 x9.2.2.1, .int .i64 x9.2.2.2.1, .int .i64 x9.2.2.2.2.1, .int .i64 x9.2.2.2.2.2.1, .slice x9.2.2.2.2.2.2.1 x9.2.2.2.2.2.2.2.1 x9.2.2.2.2.2.2.2.2]] [.sc .any] (fun (r10 : Value) h11 =>
  rfW r10 (fun n52 x53 x54 =>
  rangeW Tryz.prog n52 x53 x54 [.sc (.int .u32)] (fun l12 o13 (s14 : Int) Y15 h16 =>
  roundIn l12 o13 (fun h18 =>
  ldW .slice a7 (fun (x20 : Option Addr × Nat × Nat) =>
  callT Tryz.prog 70 [.slice x20.1 x20.2.1 x20.2.2, .int .u32 s14] [.sc .slice] (fun (r21 : (Option Addr × Nat × Nat)) h22 =>
  stW a7 (.slice r21.1 r21.2.1 r21.2.2) (fun h23 =>
  roundEnd l12 o13.rdy (Y15 true) h23) h22) h18) h18) h16) (fun l50 o51 h24 =>
  (roundDone l50 o51.rdy (fun h25 =>
  ldW .slice a7 (fun (x26 : Option Addr × Nat × Nat) =>
  ldW .slice a7 (fun (x27 : Option Addr × Nat × Nat) =>
  callT Tryz.prog 71 [.slice x27.1 x27.2.1 x27.2.2] [.sc (.int .u32)] (fun (r28 : Int) h29 =>
  (cellH h29 a7 = some (.slice x26.1 x26.2.1 x26.2.2) ∧ callT Tryz.prog 70 [.slice x26.1 x26.2.1 x26.2.2, .int .u32 r28] [.sc .slice] (fun (r30 : (Option Addr × Nat × Nat)) h31 =>
  stW a7 (.slice r30.1 r30.2.1 r30.2.2) (fun h32 =>
  ldW .slice a7 (fun (x33 : Option Addr × Nat × Nat) =>
  ldW (.int .i64) (Addr.add (Addr.add a1 3) 2) (fun (x34 : Int) =>
  ldW .slice a7 (fun (x35 : Option Addr × Nat × Nat) =>
  callT Tryz.prog 72 [.int .i64 x34] [.sc (.int .i64)] (fun (r36 : Int) h37 =>
  (cellH h37 a7 = some (.slice x35.1 x35.2.1 x35.2.2) ∧ (cellH h37 a7 = some (.slice x33.1 x33.2.1 x33.2.2) ∧ apW Tryz.prog #[68, 3] #[.slice x33.1 x33.2.1 x33.2.2, .int .i64 (IntKind.wrap .i64 ((IntKind.wrap .i64 (r36 * (16 : Int))) - (((x35.2.1 : Nat) : Int))))] (fun b38 n39 c40 h41 =>
  (cellH h41 a7 = some (.slice x35.1 x35.2.1 x35.2.2) ∧ stW a7 (.slice b38 n39 c40) (fun h42 =>
  ldW .slice a7 (fun (x43 : Option Addr × Nat × Nat) =>
  callT Tryz.prog 74 [.slice x43.1 x43.2.1 x43.2.2, .int .i64 16] [.sc .any] (fun (r44 : Value) h45 =>
  callT Tryz.prog 73 [r44] [.sc .slice] (fun (r46 : (Option Addr × Nat × Nat)) h47 =>
  (∀ h48, Taken h0.size h47 h48 →
  K (.tuple #[.slice r46.1 r46.2.1 r46.2.2, .nilIface]) h48)) h45) h42) h42) h41)) h37))) h32) h32) h32) h32) h31) h29)) h25) h25) h25) h24) ∨
  (roundDone l50 (o51.dn .ret) (fun h25 =>
  (∀ h49, Taken h0.size h25 h49 →
  K (.tuple #[.slice none 0 0, .nilIface]) h49)) h24) ∨ False) h11)) h8) h8) h5)) h2) h2) h0)
set_option maxRecDepth 100000 in
theorem F32_eq (c_0_0 : Int) (c_0_1 : Int) (c_0_2 : Int) (c_0_3 : Int) (c_0_4 : Int) (c_0_5 : Int) (c_0_6 : Option Addr) (c_0_6l c_0_6c : Nat) (K : Value → Heap → Prop) (h0 : Heap) : funWE Tryz.prog 32 (.seq (.leaf) (.seq (.seq (.leaf) (.cond (.seq (.leaf) (.leaf)) (.leaf))) (.seq (.leaf) (.seq (.seq (.leaf) (.block (.range [.sc (.int .u32)] [] (.leaf) (.block (.leaf))))) (.seq (.draw (odp [0, 1, 2, 3, 4] .nil) [200000]) (.seq (.draw (odp [0, 1, 2, 3, 6, 7, 4, 5, 8, 9, 10] .nil) [200000, 200006]) (.seq (.leaf) (.leaf)))))))) [.agg #[.int .u32 c_0_0, .int .u32 c_0_1, .int .u32 c_0_2, .int .i64 c_0_3, .int .i64 c_0_4, .int .i64 c_0_5, .slice c_0_6 c_0_6l c_0_6c]] K h0 = F32 c_0_0 c_0_1 c_0_2 c_0_3 c_0_4 c_0_5 c_0_6 c_0_6l c_0_6c K h0 := by kernel_rfl

-- function 54
set_option maxRecDepth 100000 in
def F54 (l_0 : Option Addr) (l_0l l_0c : Nat) (K : Value → Heap → Prop) (h0 : Heap) : Prop := (
  newW (.cells (zeroC Tryz.prog 40) 40) (fun a1 h2 =>
  cutT [] (fun (K3 : Unit → Heap → Prop) h10 =>
  br (decide ((((l_0l : Nat) : Int)) < (2 : Int)))
  (stLW a1 [.int .u32 0, .int .u32 0, .int .u32 0, .int .i64 0, .int .i64 0, .int .i64 0, .slice none 0 0] (fun h4 =>
  ldAggW [.int .u32, .int .u32, .int .u32, .int .i64, .int .i64, .int .i64, .slice] a1 (fun (x5 : Int × Int × Int × Int × Int × Int × (Option Addr × Nat × Nat)) =>
  K (.tuple #[.agg #[.int .u32 x5.1, .int .u32 x5.2.1, .int .u32 x5.2.2.1, .int .i64 x5.2.2.2.1, .int .i64 x5.2.2.2.2.1, .int .i64 x5.2.2.2.2.2.1, .slice x5.2.2.2.2.2.2.1 x5.2.2.2.2.2.2.2.1 x5.2.2.2.2.2.2.2.2], .iface 31 (.int .i64 3)]) h4) h4) h10)
  (callT Tryz.prog 94 [.slice l_0 l_0l l_0c, .func (.func 95) #[] #[]] [.sc .bool] (fun (r6 : Bool) h7 =>
  br r6
  (stLW a1 [.int .u32 0, .int .u32 0, .int .u32 0, .int .i64 0, .int .i64 0, .int .i64 0, .slice none 0 0] (fun h8 =>
  ldAggW [.int .u32, .int .u32, .int .u32, .int .i64, .int .i64, .int .i64, .slice] a1 (fun (x9 : Int × Int × Int × Int × Int × Int × (Option Addr × Nat × Nat)) =>
  K (.tuple #[.agg #[.int .u32 x9.1, .int .u32 x9.2.1, .int .u32 x9.2.2.1, .int .i64 x9.2.2.2.1, .int .i64 x9.2.2.2.2.1, .int .i64 x9.2.2.2.2.2.1, .slice x9.2.2.2.2.2.2.1 x9.2.2.2.2.2.2.2.1 x9.2.2.2.2.2.2.2.2], .iface 31 (.int .i64 3)]) h8) h8) h7)
  (K3 () h7)) h10)) (fun (_s11 : Unit) _ h12 =>
  callT Tryz.prog 96 [.slice l_0 l_0l l_0c] [.sc .slice] (fun (r13 : (Option Addr × Nat × Nat)) h14 =>
  callT Tryz.prog 97 [.slice r13.1 r13.2.1 r13.2.2, .int .i64 0] [.sc (.int .u32)] (fun (r15 : Int) h16 =>
  callT Tryz.prog 97 [.slice r13.1 r13.2.1 r13.2.2, .int .i64 1] [.sc (.int .u32)] (fun (r17 : Int) h18 =>
  callT Tryz.prog 97 [.slice r13.1 r13.2.1 r13.2.2, .int .i64 2] [.sc (.int .u32)] (fun (r19 : Int) h20 =>
  callT Tryz.prog 97 [.slice r13.1 r13.2.1 r13.2.2, .int .i64 3] [.sc (.int .u32)] (fun (r21 : Int) h22 =>
  callT Tryz.prog 97 [.slice r13.1 r13.2.1 r13.2.2, .int .i64 4] [.sc (.int .u32)] (fun (r23 : Int) h24 =>
  callT Tryz.prog 97 [.slice r13.1 r13.2.1 r13.2.2, .int .i64 5] [.sc (.int .u32)] (fun (r25 : Int) h26 =>
  newW (.cells (zeroC Tryz.prog 40) 40) (fun a27 h28 =>
  stLW a27 [.int .u32 r15, .int .u32 r17, .int .u32 r19, .int .i64 (IntKind.wrap .i64 r21), .int .i64 (IntKind.wrap .i64 r23), .int .i64 (IntKind.wrap .i64 r25), .slice none 0 0] (fun h29 =>
  ldAggW [.int .i64, .int .i64, .int .i64] (Addr.add a27 3) (fun (x30 : Int × Int × Int) =>
  callT Tryz.prog 98 [.agg #[.int .i64 x30.1, .int .i64 x30.2.1, .int .i64 x30.2.2]] [.sc .bool] (fun (r31 : Bool) h32 =>
  br (!r31)
  (stLW a1 [.int .u32 0, .int .u32 0, .int .u32 0, .int .i64 0, .int .i64 0, .int .i64 0, .slice none 0 0] (fun h33 =>
  ldAggW [.int .u32, .int .u32, .int .u32, .int .i64, .int .i64, .int .i64, .slice] a1 (fun (x34 : Int × Int × Int × Int × Int × Int × (Option Addr × Nat × Nat)) =>
  K (.tuple #[.agg #[.int .u32 x34.1, .int .u32 x34.2.1, .int .u32 x34.2.2.1, .int .i64 x34.2.2.2.1, .int .i64 x34.2.2.2.2.1, .int .i64 x34.2.2.2.2.2.1, .slice x34.2.2.2.2.2.2.1 x34.2.2.2.2.2.2.2.1 x34.2.2.2.2.2.2.2.2], .iface 31 (.int .i64 2)]) h33) h33) h32)
  (ldW (.int .i64) (Addr.add (Addr.add a27 3) 2) (fun (x35 : Int) =>
  callT Tryz.prog 72 [.int .i64 x35] [.sc (.int .i64)] (fun (r36 : Int) h37 =>
  br ((((l_0l : Nat) : Int)) != r36)
  (stLW a1 [.int .u32 0, .int .u32 0, .int .u32 0, .int .i64 0, .int .i64 0, .int .i64 0, .slice none 0 0] (fun h38 =>
  ldAggW [.int .u32, .int .u32, .int .u32, .int .i64, .int .i64, .int .i64, .slice] a1 (fun (x39 : Int × Int × Int × Int × Int × Int × (Option Addr × Nat × Nat)) =>
  K (.tuple #[.agg #[.int .u32 x39.1, .int .u32 x39.2.1, .int .u32 x39.2.2.1, .int .i64 x39.2.2.2.1, .int .i64 x39.2.2.2.2.1, .int .i64 x39.2.2.2.2.2.1, .slice x39.2.2.2.2.2.2.1 x39.2.2.2.2.2.2.2.1 x39.2.2.2.2.2.2.2.2], .iface 31 (.int .i64 3)]) h38) h38) h37)
  (ldW (.int .i64) (Addr.add (Addr.add a27 3) 2) (fun (x40 : Int) =>
  callT Tryz.prog 99 [.int .i64 x40] [.sc (.int .i64)] (fun (r41 : Int) h42 =>
  slW r13.1 r13.2.2 1 (0 : Int) r41 (((r13.2.2 : Nat) : Int)) (fun b43 n44 c45 =>
  callT Tryz.prog 71 [.slice b43 n44 c45] [.sc (.int .u32)] (fun (r46 : Int) h47 =>
  callT Tryz.prog 97 [.slice r13.1 r13.2.1 r13.2.2, .int .i64 (IntKind.wrap .i64 (Int.tdiv r41 (4 : Int)))] [.sc (.int .u32)] (fun (r48 : Int) h49 =>
  br (r46 != r48)
  (stLW a1 [.int .u32 0, .int .u32 0, .int .u32 0, .int .i64 0, .int .i64 0, .int .i64 0, .slice none 0 0] (fun h50 =>
  ldAggW [.int .u32, .int .u32, .int .u32, .int .i64, .int .i64, .int .i64, .slice] a1 (fun (x51 : Int × Int × Int × Int × Int × Int × (Option Addr × Nat × Nat)) =>
  K (.tuple #[.agg #[.int .u32 x51.1, .int .u32 x51.2.1, .int .u32 x51.2.2.1, .int .i64 x51.2.2.2.1, .int .i64 x51.2.2.2.2.1, .int .i64 x51.2.2.2.2.2.1, .slice x51.2.2.2.2.2.2.1 x51.2.2.2.2.2.2.2.1 x51.2.2.2.2.2.2.2.2], .iface 31 (.int .i64 4)]) h50) h50) h49)
  (slW r13.1 r13.2.2 1 (IntKind.wrap .i64 (r41 + (4 : Int))) (((r13.2.1 : Nat) : Int)) (((r13.2.2 : Nat) : Int)) (fun b52 n53 c54 =>
  callT Tryz.prog 100 [.slice b52 n53 c54, .func (.func 101) #[] #[]] [.sc .bool] (fun (r55 : Bool) h56 =>
  br r55
  (stLW a1 [.int .u32 0, .int .u32 0, .int .u32 0, .int .i64 0, .int .i64 0, .int .i64 0, .slice none 0 0] (fun h57 =>
  ldAggW [.int .u32, .int .u32, .int .u32, .int .i64, .int .i64, .int .i64, .slice] a1 (fun (x58 : Int × Int × Int × Int × Int × Int × (Option Addr × Nat × Nat)) =>
  K (.tuple #[.agg #[.int .u32 x58.1, .int .u32 x58.2.1, .int .u32 x58.2.2.1, .int .i64 x58.2.2.2.1, .int .i64 x58.2.2.2.2.1, .int .i64 x58.2.2.2.2.2.1, .slice x58.2.2.2.2.2.2.1 x58.2.2.2.2.2.2.2.1 x58.2.2.2.2.2.2.2.2], .iface 31 (.int .i64 2)]) h57) h57) h56)
  (ldW (.int .i64) (Addr.add (Addr.add a27 3) 2) (fun (x59 : Int) =>
  callT Tryz.prog 25 [.int .i64 x59] [.sc (.int .i64)] (fun (r60 : Int) h61 =>
  loopT [.sc (.int .i64)] (fun (s63 : Int) _ (K62 : Int → Heap → Prop) h64 =>
  br (decide (s63 < r60))
  (ldW .slice (Addr.add a27 6) (fun (x65 : Option Addr × Nat × Nat) =>
  callT Tryz.prog 97 [.slice r13.1 r13.2.1 r13.2.2, .int .i64 (IntKind.wrap .i64 ((6 : Int) + s63))] [.sc (.int .u32)] (fun (r66 : Int) h67 =>
  (cellH h67 (Addr.add a27 6) = some (.slice x65.1 x65.2.1 x65.2.2) ∧ newW (.cells #[.int .u32 r66] 35) (fun a68 h69 =>
  apW Tryz.prog #[38, 38] #[.slice x65.1 x65.2.1 x65.2.2, .slice (some a68) 1 1] (fun b70 n71 c72 h73 =>
  stW (Addr.add a27 6) (.slice b70 n71 c72) (fun h74 =>
  K62 (IntKind.wrap .i64 (s63 + (1 : Int))) h74) h73) h69) h67)) h64) h64)
  (ldAggW [.int .u32, .int .u32, .int .u32, .int .i64, .int .i64, .int .i64, .slice] a27 (fun (x75 : Int × Int × Int × Int × Int × Int × (Option Addr × Nat × Nat)) =>
  stLW a1 [.int .u32 x75.1, .int .u32 x75.2.1, .int .u32 x75.2.2.1, .int .i64 x75.2.2.2.1, .int .i64 x75.2.2.2.2.1, .int .i64 x75.2.2.2.2.2.1, .slice x75.2.2.2.2.2.2.1 x75.2.2.2.2.2.2.2.1 x75.2.2.2.2.2.2.2.2] (fun h76 =>
  ldAggW [.int .u32, .int .u32, .int .u32, .int .i64, .int .i64, .int .i64, .slice] a1 (fun (x77 : Int × Int × Int × Int × Int × Int × (Option Addr × Nat × Nat)) =>
  K (.tuple #[.agg #[.int .u32 x77.1, .int .u32 x77.2.1, .int .u32 x77.2.2.1, .int .i64 x77.2.2.2.1, .int .i64 x77.2.2.2.2.1, .int .i64 x77.2.2.2.2.2.1, .slice x77.2.2.2.2.2.2.1 x77.2.2.2.2.2.2.2.1 x77.2.2.2.2.2.2.2.2], .nilIface]) h76) h76) h64) h64)) (0 : Int) h61) h56) h56)) h49))) h47) h42)) h37) h37)) h32) h32)) h29) h29) h28) h26) h24) h22) h20) h18) h16) h14) h12) h2) h0)
set_option maxRecDepth 100000 in
theorem F54_eq (l_0 : Option Addr) (l_0l l_0c : Nat) (K : Value → Heap → Prop) (h0 : Heap) : funWE Tryz.prog 54 (.seq (.leaf) (.cut [] (.seq (.leaf) (.cond (.seq (.leaf) (.leaf)) (.leaf))) (.seq (.leaf) (.seq (.leaf) (.seq (.seq (.leaf) (.cond (.seq (.leaf) (.leaf)) (.leaf))) (.seq (.seq (.leaf) (.cond (.seq (.leaf) (.leaf)) (.leaf))) (.seq (.leaf) (.seq (.block (.seq (.leaf) (.cond (.seq (.leaf) (.leaf)) (.seq (.leaf) (.cond (.seq (.leaf) (.leaf)) (.leaf)))))) (.seq (.seq (.leaf) (.block (.loop [(79, .sc (.int .i64))] (.seq (.leaf) (.seq (.cond (.leaf) (.leaf)) (.seq (.block (.seq (.leaf) (.draw (odp [0, 1, 2, 3, 4, 5, 6, 7, 8, 9] .nil) [200001]))) (.leaf))))))) (.seq (.leaf) (.leaf))))))))))) [.slice l_0 l_0l l_0c] K h0 = F54 l_0 l_0l l_0c K h0 := by kernel_rfl

end Go.Proofs.YthimfpkkdhpceaaGreatDoor.W
/-
  The contracts of package ckpt: the small ones.
-/
namespace Go.Proofs.YthimfpkkdhpceaaGreatDoor.Ck
open Go.Pl Go.Proofs.YthimfpkkdhpceaaGreatDoor.W Go.Proofs.YthimfpkkdhpceaaGreatDoor.Byts Go.Proofs.YthimfpkkdhpceaaGreatDoor.Four Go.Proofs.YthimfpkkdhpceaaGreatDoor.Adl Go.Proofs.YthimfpkkdhpceaaGreatDoor.Head Go.Proofs.YthimfpkkdhpceaaGreatDoor.Geo
def chkA (c : Chk) (da : Option Addr) (dc : Nat) : Array Value := #[.int .u32 c.num, .int .u32 c.ses, .int .u32 c.seq, .int .i64 c.z, .int .i64 c.p, .int .i64 c.b, .slice da c.dir.length dc]
def chkV (c : Chk) (da : Option Addr) (dc : Nat) : Value := .agg (chkA c da dc)
theorem ldAgg_add {cs : List CTy} {b o j : Nat} {arr : Array Value} {T : TypeId} {F : CT cs → Prop} {h : Heap} (s : CT cs) (hb : Blk h b arr T) (hc : Go.Pl.rowAt arr (o + j) (cvals cs s)) (hF : F s) : ldAggW cs (Addr.add ⟨b, o, none⟩ j) F h := by
  rw [add_mk]; exact ldAgg_blk s hb hc hF
theorem tables_q (n : Int) (h : Heap) (h0 : 0 ≤ n) (h1 : n ≤ 1000000) {F : Int → Prop} (hF : F ((n + 3) / 4)) : callQ Tryz.prog 25 [.int .i64 n] [.sc (.int .i64)] F h :=
  ⟨(n + 3) / 4, fun h' _ => tables_ok n h' h0 h1, hF⟩
theorem right_ok (c : Chk) (da : Option Addr) (dc : Nat) (h : Heap) : CallsH Tryz.prog 68 [chkV c da dc] h fun v h' => v = .bool (rightC c) ∧ New h h' := by
  refine fun_ok Geo.hm' Tryz.func68 (by kernel_rfl) (F68_eq _ _ _ _ _ _ _ _ _ _ h) ?_
  unfold F68
  refine new_of fun h1 b1 n1 s1 => ldAgg_add (o := 0) (c.z, c.p, c.b) b1 ⟨rfl, rfl, rfl, trivial⟩ (call_of (Geo.right_ok c.z c.p c.b h1) ?_)
  rintro v h2 ⟨rfl, n2⟩
  have b2 := b1.new n2
  refine ⟨_, rfl, br_of (fun hr => ?_) (fun hr => ⟨by unfold rightC; rw [hr]; rfl, n1.trans n2⟩), n2.ext⟩
  obtain ⟨_, _, hb1, hb2⟩ := right_facts hr
  refine ld_of (c := .slice) (da, c.dir.length, dc) (by rw [add_mk, cellH_blk b2]; rfl) (ld_of (c := .int .i64) c.b (by rw [add_mk, add_mk, cellH_blk b2]; rfl) (tables_q c.b h2 (by omega) (by omega) ⟨?_, n1.trans n2⟩))
  unfold rightC
  rw [hr, Bool.true_and]
  rfl
theorem length_ok (b : Int) (h : Heap) (hb : 1 ≤ b ∧ b ≤ 64) : CallsH Tryz.prog 99 [.int .i64 b] h fun v h' => v = .int .i64 (lenN b : Int) ∧ h' = h := by
  refine fun_ok Geo.hm' Tryz.func99 (by kernel_rfl) (F99_eq _ _ h) ?_
  unfold F99
  refine call_of (tables_ok b h (by omega) (by omega)) ?_
  rintro v h' ⟨rfl, hh⟩; subst h'
  refine ⟨((b + 3) / 4 : Int), rfl, ?_, rfl⟩
  show Value.int .i64 (IntKind.wrap .i64 (4 * IntKind.wrap .i64 (6 + (b + 3) / 4))) = _
  rw [wr64 (n := 6 + (b + 3) / 4) (by omega) (by omega), wr64 (by omega) (by omega)]
  unfold lenN tabN
  congr 1; omega
theorem many_ok (b : Int) (h : Heap) (hb : 1 ≤ b ∧ b ≤ 64) : CallsH Tryz.prog 72 [.int .i64 b] h fun v h' => v = .int .i64 (manyN b : Int) ∧ h' = h := by
  refine fun_ok Geo.hm' Tryz.func72 (by kernel_rfl) (F72_eq _ _ h) ?_
  unfold F72
  refine call_of (length_ok b h hb) ?_
  rintro v h' ⟨rfl, hh⟩; subst h'
  have hl : lenN b ≤ 88 := by unfold lenN tabN; omega
  refine ⟨(lenN b : Int), rfl, ?_, rfl⟩
  rw [wr64 (n := (lenN b : Int) + 4) (by omega) (by omega), wr64 (n := (lenN b : Int) + 4 + 16) (by omega) (by omega), wr64 (n := (lenN b : Int) + 4 + 16 - 1) (by omega) (by omega), Int.tdiv_eq_ediv_of_nonneg (by omega), wr64 (by omega) (by omega)]
  unfold manyN
  congr 1; omega
theorem lay_ok (a : Option Addr) (c : Nat) (xs : List Int) (n : Int) (h : Heap) (r : RowS h 5 1 a xs.length c (xs.map (Value.int .u8))) (hl : xs.length ≤ 100000) :
    CallsH Tryz.prog 70 [.slice a xs.length c, .int .u32 n] h fun v h' => ∃ a' c', v = .slice a' (xs ++ four n).length c' ∧ Grow h (blkOf a) h' 5 1 a' (xs ++ four n).length c' ((xs ++ four n).map (Value.int .u8)) := by
  refine fun_ok Geo.hm' Tryz.func70 (by kernel_rfl) (F70_eq _ _ _ _ _ h) ?_
  unfold F70
  refine ⟨fun (s : (Option Addr × Nat × Nat) × Int) h' => ∃ i : Nat, s.2 = i ∧ i ≤ 4 ∧ s.1.2.1 = (xs ++ (four n).take i).length ∧ Grow h (blkOf a) h' 5 1 s.1.1 (xs ++ (four n).take i).length s.1.2.2 ((xs ++ (four n).take i).map (Value.int .u8)), fun (s : (Option Addr × Nat × Nat) × Int) _ => (4 - s.2).toNat, ⟨0, rfl, by omega, by simp, by simpa using Grow.start r⟩, ?_⟩
  rintro ⟨⟨oa, on, oc⟩, s⟩ j h2 ⟨i, hs, hi, hon, g2⟩
  have hs : s = (i : Int) := hs
  have hon : on = (xs ++ (four n).take i).length := hon
  have g2' : Grow h (blkOf a) h2 5 1 oa (xs ++ (four n).take i).length oc ((xs ++ (four n).take i).map (Value.int .u8)) := g2
  subst hs; subst hon
  refine br_of (fun hlt => ?_) (fun hlt => ?_)
  · have hlt : (i : Int) < 4 := of_decide_eq_true hlt
    have h8 : IntKind.wrap .i64 ((8 : Int) * (i : Int)) = 8 * (i : Int) := wr64 (by omega) (by omega)
    have ez : IntKind.wrap .i64 ((i : Int) + 1) = ((i + 1 : Nat) : Int) := (by first | (rw [wr64 (by omega) (by omega)]; omega) | (simp only [IntKind.wrap_i64]; omega))
    simp only [h8]
    refine ck_t (decide_eq_true (by omega)) ?_
    rw [shr_byte n i (by omega) rfl]
    have hL : (xs ++ (four n).take i).length ≤ 1000000 := by rw [List.length_append, List.length_take]; omega
    refine Grow.push ap8 g2' rfl hL (by decide) fun a' c' h3 g3 => ?_
    have et : xs ++ (four n).take (i + 1) = xs ++ (four n).take i ++ [byteAt n i] := by
      rw [List.take_add_one, four_get n (by omega), List.append_assoc]; rfl
    have el : (xs ++ (four n).take i).length + 1 = (xs ++ (four n).take (i + 1)).length := by rw [et]; simp; omega
    have em : (xs ++ (four n).take i).map (Value.int .u8) ++ [.int .u8 (byteAt n i)] = (xs ++ (four n).take (i + 1)).map (Value.int .u8) := by rw [et]; simp
    rw [el, em] at g3
    simp only [ez, el]
    exact ⟨⟨i + 1, rfl, by omega, rfl, g3⟩, (by first | omega | (dsimp only; omega) | (simp only []; omega))⟩
  · have hlt : ¬ (i : Int) < 4 := of_decide_eq_false hlt
    have : i = 4 := by omega
    subst this
    have e : (four n).take 4 = four n := rfl
    rw [e] at g2' ⊢
    exact ⟨oa, oc, rfl, g2'⟩
theorem number_ok (a : Option Addr) (c : Nat) (xs : List Int) (at_ : Nat) (m : Nat) (h : Heap) (s : Sl8 h a c xs) (hl : 4 * at_ + 4 ≤ xs.length) (hx : xs.length ≤ 100000) :
    CallsH Tryz.prog 97 [.slice a m c, .int .i64 (at_ : Int)] h fun v h' => v = .int .u32 (wordAt xs (4 * at_)) ∧ h' = h := by
  refine fun_ok Geo.hm' Tryz.func97 (by kernel_rfl) (F97_eq _ _ _ _ _ h) ?_
  unfold F97
  rw [wr64 (n := 4 * (at_ : Int)) (by omega) (by omega), wr64 (n := 4 * (at_ : Int) + 4) (by omega) (by omega)]
  refine s.sl (4 * at_) (4 * at_ + 4) c (by omega) (by omega) rfl (by omega) hl (by have := s.le; omega) (Nat.le_refl _) fun b d sb => ?_
  rw [show 4 * at_ + 4 - 4 * at_ = 4 by omega] at sb ⊢
  generalize hys : (xs.drop (4 * at_)).take 4 = ys at sb
  have h4 : ys.length = 4 := by rw [← hys, List.length_take, List.length_drop]; omega
  have hw : wordAt xs (4 * at_) = accW (bys ys) 4 := by
    rw [accW_four, ← hys]
    unfold wordAt
    rw [bys_take (by omega), bys_take (by omega), bys_take (by omega), bys_take (by omega), bys_drop, bys_drop, bys_drop, bys_drop]; rfl
  rw [hw]
  refine ⟨fun (q : Int × Int) h' => h' = h ∧ ∃ i : Nat, q.2 = i ∧ i ≤ 4 ∧ q.1 = accW (bys ys) i, fun (q : Int × Int) _ => (4 - q.2).toNat, ⟨rfl, 0, rfl, by omega, rfl⟩, ?_⟩
  rintro ⟨acc, q⟩ j h' ⟨hh, i, hq, hi, ha⟩
  simp only [] at hq ha ⊢
  subst h'; subst hq; subst ha
  refine br_of (fun hlt => ?_) (fun hlt => ?_)
  · have hlt : i < 4 := by simp at hlt; omega
    rw [wr64 (n := 8 * (i : Int)) (by omega) (by omega), wr64 (n := (i : Int) + 1) (by omega) (by omega)]
    refine sb.at_ i rfl (show i < ys.length by omega) (by omega) (ck_t (decide_eq_true (by omega)) ⟨⟨rfl, i + 1, rfl, by omega, ?_⟩, (by first | omega | (dsimp only; omega) | (simp only []; omega))⟩)
    have hby : ∀ t, 0 ≤ bys ys t ∧ bys ys t < 256 := fun t => sb.byt.get t
    obtain ⟨h0, hlt'⟩ := accW_nat hby i
    obtain ⟨h0', hlt''⟩ := hby i
    simp only [accW]
    generalize accW (bys ys) i = A at h0 hlt' ⊢
    generalize bys ys i = B at h0' hlt'' ⊢
    obtain ⟨A, rfl⟩ := Int.eq_ofNat_of_zero_le h0
    obtain ⟨B, rfl⟩ := Int.eq_ofNat_of_zero_le h0'
    rw [or_byte (n := A) (c := B) (i := i) (by omega) (Int.ofNat_lt.1 (by rw [Int.natCast_pow]; exact hlt')) (by omega) rfl]
    simp
  · have hi : i = 4 := by simp at hlt; omega
    subst hi
    exact ⟨rfl, rfl⟩
theorem equal_ok (a b : Option Addr) (ca cb : Nat) (xs ys : List Int) (h : Heap) (hx : xs.length ≤ 1000000) (ra : Ar .u32 h a xs) (rb : Ar .u32 h b ys) :
    CallsH Tryz.prog 62 [.slice a xs.length ca, .slice b ys.length cb] h fun v h' => v = .bool (decide (xs = ys)) ∧ h' = h := by
  refine fun_ok Geo.hm' Tryz.func62 (by kernel_rfl) (F62_eq _ _ _ _ _ _ _ h) ?_
  unfold F62
  refine br_of (fun hne => ?_) (fun heq => ?_)
  · have : xs ≠ ys := fun e => by subst e; simp at hne
    exact ⟨by simp [this], rfl⟩
  have hl : xs.length = ys.length := by simp at heq; omega
  refine ⟨fun (s : Int) h' => h' = h ∧ ∃ i : Nat, s = i ∧ i ≤ xs.length ∧ xs.take i = ys.take i, fun (s : Int) _ => (xs.length - s).toNat, ⟨rfl, 0, rfl, by omega, rfl⟩, ?_⟩
  rintro s j h' ⟨hh, i, rfl, hi, hpre⟩
  subst h'
  refine br_of (fun hlt => ?_) (fun hlt => ?_)
  · have hlt : i < xs.length := by simp at hlt; omega
    refine ix_ld ra hlt hlt (ix_ld rb (by omega) (by omega) (br_of (fun hd => ?_) (fun hd => ?_)))
    · have hd : xs[i] ≠ ys[i] := by simpa using hd
      have : xs ≠ ys := fun e => by subst e; exact hd rfl
      exact ⟨by simp [this], by trivial⟩
    · have hd : xs[i] = ys[i] := by simpa using hd
      rw [wr64 (by omega) (by omega)]
      refine ⟨⟨by trivial, i + 1, by omega, by omega, ?_⟩, by dsimp only; omega⟩
      rw [List.take_add_one, List.take_add_one, hpre, List.getElem?_eq_getElem hlt, List.getElem?_eq_getElem (show i < ys.length by omega), hd]
  · have hlt : ¬ (i : Int) < (xs.length : Int) := of_decide_eq_false hlt
    have : i = xs.length := by omega
    subst this
    rw [List.take_length, List.take_of_length_le (by omega)] at hpre
    exact ⟨by simp [hpre], rfl⟩
/- ROWS OF BLOCKS. -/
def RB (h : Heap) (a : Option Addr) (l : List (List Int)) : Prop := ∀ (i : Nat) (bs : List Int), l[i]? = some bs → ∃ b o a' c', a = some ⟨b, o, none⟩ ∧ b < h.size ∧ cellH h ⟨b, o + i, none⟩ = some (.slice a' bs.length c') ∧ Sl8 h a' c' bs
theorem RB.new {h h' : Heap} {a : Option Addr} {l : List (List Int)} (r : RB h a l) (n : New h h') : RB h' a l := fun i bs hi => by
  obtain ⟨b, o, a', c', e, hl, hc, s⟩ := r i bs hi
  exact ⟨b, o, a', c', e, Nat.lt_of_lt_of_le hl n.size, by rw [cellH_same (n.same b hl)]; exact hc, s.new n⟩
/-- A block of a row, loaded. -/
theorem RB.ld {h : Heap} {a : Option Addr} {l : List (List Int)} (r : RB h a l) {i n : Nat} (hi : i < l.length) (hn : i < n) {F : Option Addr × Nat × Nat → Prop} (hF : ∀ a' c', Sl8 h a' c' l[i] → F (a', l[i].length, c')) :
    ptrW a (fun p => idxW (i : Int) n true (ldW .slice (Addr.add p (Int.toNat (i : Int) * 1)) F h)) := by
  obtain ⟨b, o, a', c', rfl, _, hc, s⟩ := r i _ (List.getElem?_eq_getElem hi)
  refine ⟨⟨⟨by omega, by omega⟩, rfl⟩, ld_of (c := .slice) (a', l[i].length, c') ?_ (hF a' c' s)⟩
  rw [add_mk, Int.toNat_natCast, Nat.mul_one]; exact hc
theorem not16_ok (a : Option Addr) (n c : Nat) (h : Heap) : CallsH Tryz.prog 95 [.slice a n c] h fun v h' => v = .bool (decide (n ≠ 16)) ∧ h' = h := by
  refine fun_ok Geo.hm' Tryz.func95 (by kernel_rfl) (F95_eq _ _ _ _ h) ?_
  unfold F95
  refine ⟨?_, rfl⟩
  congr 1
  by_cases e : n = 16
  · subst e; rfl
  · rw [decide_eq_true e]; simp; omega
theorem not0_ok (x : Int) (h : Heap) : CallsH Tryz.prog 101 [.int .u8 x] h fun v h' => v = .bool (decide (x ≠ 0)) ∧ h' = h := by
  refine fun_ok Geo.hm' Tryz.func101 (by kernel_rfl) (F101_eq _ _ h) ?_
  unfold F101
  refine ⟨?_, rfl⟩
  congr 1
  by_cases e : x = 0
  · subst e; rfl
  · rw [decide_eq_true e]; simp [e]
theorem idx16_ok (a : Option Addr) (c : Nat) (l : List (List Int)) (h : Heap) (r : RB h a l) (hl : l.length ≤ 1000000) :
    CallsH Tryz.prog 118 [.slice a l.length c, .func (.func 95) #[] #[]] h fun v h' => ∃ i : Int, v = .int .i64 i ∧ (0 ≤ i ↔ l.any (fun b => decide (b.length ≠ 16)) = true) ∧ h' = h := by
  refine fun_ok Geo.hm' Tryz.func118 (by kernel_rfl) (F118_eq _ _ _ _ _ h) ?_
  unfold F118
  refine ⟨fun (s : Int) h' => h' = h ∧ ∃ i : Nat, s = i ∧ i ≤ l.length ∧ ∀ b ∈ l.take i, b.length = 16, fun (s : Int) _ => ((l.length : Int) - s).toNat, ⟨rfl, 0, rfl, Nat.zero_le _, by simp⟩, ?_⟩
  rintro s j h' ⟨hh, i, rfl, hi, hno⟩; subst h'
  refine br_of (fun hlt => ?_) (fun hlt => ?_)
  · have hlt : (i : Int) < (l.length : Int) := of_decide_eq_true hlt
    have hiL : i < l.length := by omega
    refine r.ld hiL hiL fun a' c' _ => callW_of (first := #[]) (cap := #[]) (not16_ok a' l[i].length c' h) ?_
    rintro v h' ⟨rfl, hh⟩; subst h'
    refine ⟨decide (l[i].length ≠ 16), rfl, br_of (fun he => ⟨(i : Int), rfl, ⟨fun _ => ?_, fun _ => by omega⟩, rfl⟩) fun he => ⟨⟨rfl, i + 1, (by first | (rw [wr64 (by omega) (by omega)]; omega) | (simp only [IntKind.wrap_i64]; omega)), hiL, ?_⟩, (by dsimp only; first | (rw [wr64 (by omega) (by omega)]; omega) | (rw [wr64 (by omega) (by omega), wr64 (by omega) (by omega)]; omega) | (simp only [IntKind.wrap_i64]; omega))⟩⟩
    · exact List.any_eq_true.2 ⟨_, List.getElem_mem hiL, he⟩
    · intro b hb
      rw [← List.take_append_getElem hiL] at hb
      rcases List.mem_append.1 hb with hb | hb
      · exact hno b hb
      · rw [List.mem_singleton.1 hb]; exact Classical.not_not.1 (of_decide_eq_false he)
  · have hlt : ¬ (i : Int) < (l.length : Int) := of_decide_eq_false hlt
    have : i = l.length := by omega
    subst this
    rw [List.take_length] at hno
    refine ⟨-1, rfl, ⟨fun h => by omega, fun h => ?_⟩, rfl⟩
    obtain ⟨b, hb, e⟩ := List.any_eq_true.1 h
    exact ((of_decide_eq_true e) (hno b hb)).elim
theorem has16_ok (a : Option Addr) (c : Nat) (l : List (List Int)) (h : Heap) (r : RB h a l) (hl : l.length ≤ 1000000) :
    CallsH Tryz.prog 94 [.slice a l.length c, .func (.func 95) #[] #[]] h fun v h' => v = .bool (l.any fun b => decide (b.length ≠ 16)) ∧ h' = h := by
  refine fun_ok Geo.hm' Tryz.func94 (by kernel_rfl) (F94_eq _ _ _ _ _ h) ?_
  unfold F94
  refine call_of (idx16_ok a c l h r hl) ?_
  rintro v h' ⟨i, rfl, hi, hh⟩; subst h'
  refine ⟨i, rfl, ?_, rfl⟩
  congr 1
  rw [Bool.eq_iff_iff, decide_eq_true_iff]
  exact hi
theorem idx0_ok (a : Option Addr) (c : Nat) (xs : List Int) (h : Heap) (r : Ar .u8 h a xs) (hl : xs.length ≤ 1000000) :
    CallsH Tryz.prog 121 [.slice a xs.length c, .func (.func 101) #[] #[]] h fun v h' => ∃ i : Int, v = .int .i64 i ∧ (0 ≤ i ↔ xs.any (fun x => decide (x ≠ 0)) = true) ∧ h' = h := by
  refine fun_ok Geo.hm' Tryz.func121 (by kernel_rfl) (F121_eq _ _ _ _ _ h) ?_
  unfold F121
  refine ⟨fun (s : Int) h' => h' = h ∧ ∃ i : Nat, s = i ∧ i ≤ xs.length ∧ ∀ x ∈ xs.take i, x = 0, fun (s : Int) _ => ((xs.length : Int) - s).toNat, ⟨rfl, 0, rfl, Nat.zero_le _, by simp⟩, ?_⟩
  rintro s j h' ⟨hh, i, rfl, hi, hno⟩; subst h'
  refine br_of (fun hlt => ?_) (fun hlt => ?_)
  · have hlt : (i : Int) < (xs.length : Int) := of_decide_eq_true hlt
    have hiL : i < xs.length := by omega
    refine ix_ld r hiL hiL (callW_of (first := #[]) (cap := #[]) (not0_ok xs[i] h) ?_)
    rintro v h' ⟨rfl, hh⟩; subst h'
    refine ⟨decide (xs[i] ≠ 0), rfl, br_of (fun he => ⟨(i : Int), rfl, ⟨fun _ => ?_, fun _ => by omega⟩, rfl⟩) fun he => ⟨⟨rfl, i + 1, (by first | (rw [wr64 (by omega) (by omega)]; omega) | (simp only [IntKind.wrap_i64]; omega)), hiL, ?_⟩, (by dsimp only; first | (rw [wr64 (by omega) (by omega)]; omega) | (rw [wr64 (by omega) (by omega), wr64 (by omega) (by omega)]; omega) | (simp only [IntKind.wrap_i64]; omega))⟩⟩
    · exact List.any_eq_true.2 ⟨_, List.getElem_mem hiL, he⟩
    · intro x hx
      rw [← List.take_append_getElem hiL] at hx
      rcases List.mem_append.1 hx with hx | hx
      · exact hno x hx
      · rw [List.mem_singleton.1 hx]; exact Classical.not_not.1 (of_decide_eq_false he)
  · have hlt : ¬ (i : Int) < (xs.length : Int) := of_decide_eq_false hlt
    have : i = xs.length := by omega
    subst this
    rw [List.take_length] at hno
    refine ⟨-1, rfl, ⟨fun h => by omega, fun h => ?_⟩, rfl⟩
    obtain ⟨x, hx, e⟩ := List.any_eq_true.1 h
    exact ((of_decide_eq_true e) (hno x hx)).elim
theorem has0_ok (a : Option Addr) (c : Nat) (xs : List Int) (h : Heap) (r : Ar .u8 h a xs) (hl : xs.length ≤ 1000000) :
    CallsH Tryz.prog 100 [.slice a xs.length c, .func (.func 101) #[] #[]] h fun v h' => v = .bool (xs.any fun x => decide (x ≠ 0)) ∧ h' = h := by
  refine fun_ok Geo.hm' Tryz.func100 (by kernel_rfl) (F100_eq _ _ _ _ _ h) ?_
  unfold F100
  refine call_of (idx0_ok a c xs h r hl) ?_
  rintro v h' ⟨i, rfl, hi, hh⟩; subst h'
  refine ⟨i, rfl, ?_, rfl⟩
  congr 1
  rw [Bool.eq_iff_iff, decide_eq_true_iff]
  exact hi
end Go.Proofs.YthimfpkkdhpceaaGreatDoor.Ck
/-
  Zeros behind a row. Over any program.
-/
namespace Go.Pl
/- ZEROS BEHIND A ROW: append of make. -/
theorem zeroCells_one (v : Value) (k : Nat) : Builtin.zeroCells #[v] k = Array.replicate k v := by
  apply Array.ext
  · simp [Builtin.zeroCells]
  · intro i h1 h2
    simp [Builtin.zeroCells, Nat.mod_one]
theorem run_append_room_zeros {P : Program} (w : World) (t tn ty e : TypeId) (i : TypeInfo) (zv : Value) (kq kn : IntKind) (ht : P.underlying t = some (.slice e)) (htn : P.underlying tn = some (.int kn)) (hi : P.info? e = some i) (hz : i.zero = some zv) (hzc : zv.cells = #[zv]) (hs : i.size = 1)
    (g sLen sCap : Nat) (cur : Array Value) (hg : w.heap[g]? = some (.cells cur e (0, 0))) (h1 : zv.oneCell' = true) (m : Nat) (h0 : 0 < m) (h48 : m * i.bytes ≤ 281474976710656) (hm : m ≤ 9223372036854775807)
    (hroom : sLen + m ≤ sCap) (hfit : sLen + m ≤ cur.size) :
    (Builtin.append_ #[t, tn] ty #[.slice (some ⟨g, 0, none⟩) sLen sCap, .int kq (m : Int)]).run P w =
      .ok (.slice (some ⟨g, 0, none⟩) (sLen + m) sCap) (w.setRow g (cur.toList.take sLen ++ List.replicate m zv ++ cur.toList.drop (sLen + m)).toArray) := by
  have hst := run_storeCells_at P g sLen e (List.replicate m zv) 0 cur w hg (by simpa using hfit) (fun u hu => by rw [List.eq_of_mem_replicate hu]; exact h1)
  simp only [Nat.add_zero, List.length_replicate] at hst
  have hw : IntKind.i64.wrap (m : Int) = m := by rw [IntKind.wrap_i64]; omega
  have h48i : ¬ (281474976710656 < (m : Int) * (i.bytes : Int)) := by
    rw [← Int.natCast_mul]
    omega
  have hneg : ¬ ((m : Int) < 0) := by omega
  have hns : ¬ m = 0 := by omega
  simp [Builtin.append_, run_underlying ht, run_underlying htn, sizeOf, typeInfo, zeroValue, hi, hz, asInt, asIntOf, hw, hneg, hns, h48i, hs, hzc, zeroCells_one, hroom, Addr.add_lit, hst]
theorem ap_zeros {P : Program} {t tn e : TypeId} {bytes : Nat} {kn kq : IntKind} (hB : apB P t e 1 bytes = true) (htn : P.underlying tn = some (.int kn)) {zv : Value} (hzi : ((P.info? e).bind fun i => i.zero) = some zv) (hzc : zv.cells = #[zv]) (h1 : zv.oneCell' = true)
    {h : Heap} {base n c : Nat} {a : Option Addr} {xs : List Value} (own : OwnH h base e 1 a n c xs) {m : Nat} (h63 : n + m ≤ maxLen) (hb : (n + m) * bytes ≤ 140737488355328) (hbase : base ≤ h.size) {F : Option Addr → Nat → Nat → Heap → Prop}
    (hF : ∀ a' c' h', OwnH h' base e 1 a' (n + m) c' (xs ++ List.replicate m zv) → UpdO (blkOf a) h h' → F a' (n + m) c' h') : apW P #[t, tn] #[.slice a n c, .int kq (m : Int)] F h := by
  intro w hw'
  obtain ⟨ht, i, z, hi, hz, hs, hby, hzs⟩ := apB_spec hB
  have hzz : z = zv := by rw [hi] at hzi; exact Option.some.inj (hz.symm.trans hzi)
  subst hzz; subst hby
  have ow := (own_world hw').2 own
  have hsmall : n + m ≤ 9223372036854775807 := by simp only [maxLen] at h63; omega
  have hmb : m * i.bytes ≤ 140737488355328 := Nat.le_trans (Nat.mul_le_mul_right _ (by omega)) hb
  have hlen : (xs ++ List.replicate m z).length = (n + m) * 1 := by rw [List.length_append, ow.1, List.length_replicate]; omega
  by_cases hm : m = 0
  · subst hm
    refine ⟨a, n, c, w, ?_, ?_, Rest.refl w⟩
    · have h0 : IntKind.i64.wrap (0 : Int) = 0 := by rw [IntKind.wrap_i64]; omega
      rcases own.row.2 with ⟨e1, e2, e3⟩ | ⟨g, cur, e1, _, _, hnc, _⟩
      · subst e1; subst e2; subst e3
        simp [Builtin.append_, run_underlying ht, run_underlying htn, sizeOf, typeInfo, hi, asInt, asIntOf, h0]
      · subst e1
        simp [Builtin.append_, run_underlying ht, run_underlying htn, sizeOf, typeInfo, hi, asInt, asIntOf, h0, hnc, storeCells]
    · rw [hw']
      exact hF a c h (by rw [List.replicate_zero, List.append_nil]; exact own) ⟨Nat.le_refl _, fun _ _ _ => rfl⟩
  have fresh : ∀ old, old < n + m → (Builtin.append_ #[t, tn] 0 #[.slice a n c, .int kq (m : Int)]).run P w = .ok (.slice (some ⟨w.heap.size, 0, none⟩) (n + m) (grownCap w (n + m) old e)) (w.drew.alloc (.cells (xs.toArray ++ Builtin.zeroCells z.cells m ++ Builtin.zeroCells z.cells (grownCap w (n + m) old e - (n + m))) e)) →
      ∃ a' n' c' w', (Builtin.append_ #[t, tn] 0 #[.slice a n c, .int kq (m : Int)]).run P w = .ok (.slice a' n' c') w' ∧ F a' n' c' w'.heap ∧ Rest w w' := by
    intro old ho hr
    refine ⟨_, _, _, _, hr, ?_, (Rest.drawn w).trans (Rest.alloc _ _)⟩
    have hge := grownCap_ge w (n + m) old e
    have hcm : grownCap w (n + m) old e ≤ maxLen := grownCap_le_maxLen w (n + m) old e h63
    have hpush : (w.drew.alloc (.cells (xs.toArray ++ Builtin.zeroCells z.cells m ++ Builtin.zeroCells z.cells (grownCap w (n + m) old e - (n + m))) e)).heap = h.push (.cells (xs.toArray ++ Builtin.zeroCells z.cells m ++ Builtin.zeroCells z.cells (grownCap w (n + m) old e - (n + m))) e) := by
      show w.heap.push _ = _
      rw [hw']
    rw [hpush, hw']
    have hN : New h (h.push (.cells (xs.toArray ++ Builtin.zeroCells z.cells m ++ Builtin.zeroCells z.cells (grownCap w (n + m) old e - (n + m))) e)) := New.push h _
    refine hF _ _ _ ⟨hlen, .inr ⟨h.size, _, _, rfl, hbase, Blk.push h _ _, hge, hcm, ?_, ?_⟩⟩ ⟨hN.size, fun k hk _ => hN.same k hk⟩
    · rw [hzc, zeroCells_one, zeroCells_one]
      simp only [Array.size_append, List.size_toArray, Array.size_replicate, ow.1]
      omega
    · rw [hzc, zeroCells_one, zeroCells_one]
      simp only [Array.toList_append, Array.toList_replicate]
      rw [← hlen]
      exact List.take_left
  rcases ow.2 with ⟨e1, rfl⟩ | ⟨g, cap, cur, e1, hbg, hg, hnc, hcm, hcs, htake⟩
  · injection e1 with e1 _ e3
    subst e1; subst e3
    have hx : xs = [] := List.eq_nil_of_length_eq_zero (by simpa using ow.1)
    subst hx
    have hr := Go.Lib.run_append_nil_zeros (P := P) w t tn 0 e i z kq kn ht htn hi hz m (by omega) (by omega) (by omega) (by omega)
    exact fresh 0 (by omega) (by simpa using hr)
  · injection e1 with e1 _ e3
    subst e1; subst e3
    by_cases hroom : n + m ≤ c
    · have hr := run_append_room_zeros (P := P) w t tn 0 e i z kq kn ht htn hi hz hzc hs g n c cur hg h1 m (by omega) (by omega) (by omega) hroom (by omega)
      have hgr : w.grownBy (w.setRow g (cur.toList.take n ++ List.replicate m z ++ cur.toList.drop (n + m)).toArray) (Value.slice (some ⟨g, 0, none⟩) n c).ownBlock :=
        ⟨rfl, rfl, rfl, by simp, fun k _ hk => setRow_other w g k _ (fun e => hk (by simp [Value.ownBlock, e]))⟩
      refine ⟨_, _, _, _, hr, hF _ _ _ ⟨hlen, .inr ⟨g, c, _, rfl, hbg, setRow_heap w g cur _ e _ hg, hroom, hcm, ?_, ?_⟩⟩ ⟨by rw [← hw']; exact hgr.size, fun k hk hne => by subst hw'; exact hgr.block k hk hne⟩, rest_grown ow hgr⟩
      · simp only [List.size_toArray, List.length_append, List.length_take, List.length_drop, Array.length_toList, List.length_replicate]
        omega
      · rw [Nat.mul_one] at htake
        rw [htake, ← hlen]
        exact List.take_left
    · have holds : ∀ (j : Nat) (u : Value), xs[j]? = some u → w.cell? ((⟨g, 0, none⟩ : Addr).add j) = some u := ow.cells (g := g) rfl
      have hold := run_firstCells_some (P := P) w.drew i.size n ⟨g, 0, none⟩ n c xs (by rw [hs]; exact ow.1) holds
      have hr := Go.Lib.run_append_grow_zeros (P := P) w t tn 0 e i z kq kn ht htn hi hz (some ⟨g, 0, none⟩) n c xs hold m (by omega) (by omega) (by omega) (by omega) (by omega) (growslice_fits (by omega) hb)
      exact fresh c (by omega) hr
end Go.Pl
/-
  slices.Grow, slices.Concat: what they come to.
-/
namespace Go.Proofs.YthimfpkkdhpceaaGreatDoor.Ck
open Go.Pl Go.Proofs.YthimfpkkdhpceaaGreatDoor.W Go.Proofs.YthimfpkkdhpceaaGreatDoor.Byts Go.Proofs.YthimfpkkdhpceaaGreatDoor.Four Go.Proofs.YthimfpkkdhpceaaGreatDoor.Adl Go.Proofs.YthimfpkkdhpceaaGreatDoor.Head Go.Proofs.YthimfpkkdhpceaaGreatDoor.Geo
theorem sliceBase_zero (a : Option Addr) (m : Nat) : sliceBase a 0 m 1 = a := by
  unfold sliceBase
  split
  · rfl
  · cases a with
    | none => rfl
    | some b =>
      show some (b.add (0 * 1)) = some b; rw [Addr.add]; split <;> simp_all
theorem own_cut0 {h : Heap} {base n c : Nat} {e : TypeId} {a : Option Addr} {xs : List Value} (o : OwnH h base e 1 a n c xs) : OwnH h base e 1 a 0 c [] := by
  refine ⟨rfl, ?_⟩
  rcases o.2 with ⟨e1, e2⟩ | ⟨g, cap, cur, e1, hbg, hg, hnc, hcm, hcs, htake⟩
  · injection e1 with e1 _ e3
    subst e1; subst e3
    exact .inl ⟨rfl, rfl⟩
  · injection e1 with e1 _ e3
    subst e1; subst e3
    exact .inr ⟨g, c, cur, rfl, hbg, hg, Nat.zero_le _, hcm, hcs, rfl⟩
theorem ap8' : apB Tryz.prog 68 5 1 1 = true := by kernel_rfl
theorem ap32 : apB Tryz.prog 38 35 1 4 = true := by kernel_rfl
theorem intI : Tryz.prog.underlying 3 = some (.int .i64) := by kernel_rfl
theorem zero8i : ((Tryz.prog.info? 5).bind fun i => i.zero) = some (.int .u8 0) := by kernel_rfl
theorem zero32i : ((Tryz.prog.info? 35).bind fun i => i.zero) = some (.int .u32 0) := by kernel_rfl
theorem grow8_ok (n : Nat) (h : Heap) (hn : n ≤ 100000) : CallsH Tryz.prog 119 [.slice none 0 0, .int .i64 (n : Int)] h fun v h' => ∃ a c, v = .slice a 0 c ∧ OwnH h' h.size 5 1 a 0 c [] ∧ New h h' := by
  refine fun_ok Geo.hm' Tryz.func119 (by kernel_rfl) (F119_eq _ _ _ _ _ h) ?_
  unfold F119
  refine cut_q (ts := []) (fun _ h' => h' = h) ?_ ?_
  rotate_left
  · intro K hK
    exact br_f (decide_eq_false (by omega)) (hK () _ rfl)
  rintro _ h' hh _; subst h'
  have e0 : IntKind.wrap .i64 ((n : Int) - (IntKind.wrap .i64 (((0 : Nat) : Int) - ((0 : Nat) : Int)))) = (n : Int) := by
    rw [wr64 (n := ((0 : Nat) : Int) - ((0 : Nat) : Int)) (by omega) (by omega), wr64 (by omega) (by omega)]; omega
  rw [e0]
  refine br_of (fun hp => ?_) (fun hp => ⟨none, 0, rfl, OwnH.nil _ _ _ _, New.refl _⟩)
  refine ⟨⟨by omega, by omega, by omega, by omega⟩, ?_⟩
  refine ap_zeros (a := none) (n := 0) (c := 0) (zv := .int .u8 0) ap8' intI zero8i rfl rfl (OwnH.nil h h.size _ 1) (by simp only [maxLen]; omega) (by omega) (Nat.le_refl _) fun a' c' h1 o1 u1 => ?_
  refine ⟨⟨by omega, by omega, by omega, by omega⟩, ?_⟩
  have hN : New h h1 := ⟨u1.size, fun k hk => u1.same k hk (by simp [blkOf])⟩
  refine ⟨a', c', ?_, own_cut0 o1, hN⟩
  show Value.slice (sliceBase a' 0 ((c' : Int)).toNat 1) (0 - 0) (((c' : Int)).toNat - 0) = _
  rw [sliceBase_zero, Int.toNat_natCast]; rfl
theorem grow32_ok (n : Nat) (h : Heap) (hn : n ≤ 100000) : CallsH Tryz.prog 122 [.slice none 0 0, .int .i64 (n : Int)] h fun v h' => ∃ a c, v = .slice a 0 c ∧ OwnH h' h.size 35 1 a 0 c [] ∧ New h h' := by
  refine fun_ok Geo.hm' Tryz.func122 (by kernel_rfl) (F122_eq _ _ _ _ _ h) ?_
  unfold F122
  refine cut_q (ts := []) (fun _ h' => h' = h) ?_ ?_
  rotate_left
  · intro K hK
    exact br_f (decide_eq_false (by omega)) (hK () _ rfl)
  rintro _ h' hh _; subst h'
  have e0 : IntKind.wrap .i64 ((n : Int) - (IntKind.wrap .i64 (((0 : Nat) : Int) - ((0 : Nat) : Int)))) = (n : Int) := by
    rw [wr64 (n := ((0 : Nat) : Int) - ((0 : Nat) : Int)) (by omega) (by omega), wr64 (by omega) (by omega)]; omega
  rw [e0]
  refine br_of (fun hp => ?_) (fun hp => ⟨none, 0, rfl, OwnH.nil _ _ _ _, New.refl _⟩)
  refine ⟨⟨by omega, by omega, by omega, by omega⟩, ?_⟩
  refine ap_zeros (a := none) (n := 0) (c := 0) (zv := .int .u32 0) ap32 intI zero32i rfl rfl (OwnH.nil h h.size _ 1) (by simp only [maxLen]; omega) (by omega) (Nat.le_refl _) fun a' c' h1 o1 u1 => ?_
  refine ⟨⟨by omega, by omega, by omega, by omega⟩, ?_⟩
  have hN : New h h1 := ⟨u1.size, fun k hk => u1.same k hk (by simp [blkOf])⟩
  refine ⟨a', c', ?_, own_cut0 o1, hN⟩
  show Value.slice (sliceBase a' 0 ((c' : Int)).toNat 1) (0 - 0) (((c' : Int)).toNat - 0) = _
  rw [sliceBase_zero, Int.toNat_natCast]; rfl
theorem flat_take_le (l : List (List Int)) (i : Nat) : (l.take i).flatten.length ≤ l.flatten.length := by
  have : l.flatten = (l.take i).flatten ++ (l.drop i).flatten := by rw [← List.flatten_append, List.take_append_drop]
  rw [this, List.length_append]; omega
theorem flat_succ (l : List (List Int)) (i : Nat) (hi : i < l.length) : (l.take (i + 1)).flatten = (l.take i).flatten ++ l[i] := by
  rw [← List.take_append_getElem hi, List.flatten_append]; simp
theorem concat8_ok (a : Option Addr) (c : Nat) (l : List (List Int)) (h : Heap) (r : RB h a l) (hl : l.length ≤ 1000) (hs : l.flatten.length ≤ 100000) (hne : ∀ b ∈ l, b ≠ []) :
    CallsH Tryz.prog 96 [.slice a l.length c] h fun v h' => ∃ a' c', v = .slice a' l.flatten.length c' ∧ OwnH h' h.size 5 1 a' l.flatten.length c' (l.flatten.map (Value.int .u8)) ∧ New h h' := by
  refine fun_ok Geo.hm' Tryz.func96 (by kernel_rfl) (F96_eq _ _ _ _ h) ?_
  unfold F96
  refine ⟨fun (s : Int × Int) h' => h' = h ∧ ∃ i : Nat, s.2 = i ∧ i ≤ l.length ∧ s.1 = ((l.take i).flatten.length : Int), fun (s : Int × Int) _ => ((l.length : Int) - s.2).toNat, ⟨rfl, 0, rfl, Nat.zero_le _, rfl⟩, ?_⟩
  rintro ⟨sz, s⟩ j h' ⟨hh, i, hsi, hi, hsz⟩
  have hsi : s = (i : Int) := hsi
  have hsz : sz = ((l.take i).flatten.length : Int) := hsz
  subst h'; subst hsi; subst hsz
  have hti := flat_take_le l i
  refine br_of (fun hlt => ?_) (fun hlt => ?_)
  · have hlt : (i : Int) < (l.length : Int) := of_decide_eq_true hlt
    have hiL : i < l.length := by omega
    have hfs := flat_succ l i hiL
    have hti' := flat_take_le l (i + 1)
    have hfl := congrArg List.length hfs
    rw [List.length_append] at hfl
    refine r.ld hiL hiL fun a' c' _ => ?_
    have ew : IntKind.wrap .i64 (((l.take i).flatten.length : Int) + (l[i].length : Int)) = ((l.take (i + 1)).flatten.length : Int) := by rw [wr64 (by omega) (by omega)]; omega
    have ez : IntKind.wrap .i64 ((i : Int) + 1) = ((i + 1 : Nat) : Int) := (by first | (rw [wr64 (by omega) (by omega)]; omega) | (simp only [IntKind.wrap_i64]; omega))
    simp only [ew, ez]
    exact br_f (decide_eq_false (by omega)) ⟨⟨trivial, i + 1, rfl, hiL, rfl⟩, (by first | omega | (dsimp only; omega) | (simp only []; omega))⟩
  have : i = l.length := by
    have hlt : ¬ (i : Int) < (l.length : Int) := of_decide_eq_false hlt
    omega
  subst this
  rw [List.take_length]
  refine call_of (grow8_ok l.flatten.length h hs) ?_
  rintro v h1 ⟨a1, c1, rfl, o1, n1⟩
  refine ⟨(a1, 0, c1), rfl, ?_⟩
  refine ⟨fun (s : (Option Addr × Nat × Nat) × Int) h' => ∃ i : Nat, s.2 = i ∧ i ≤ l.length ∧ s.1.2.1 = (l.take i).flatten.length ∧ OwnH h' h.size 5 1 s.1.1 (l.take i).flatten.length s.1.2.2 ((l.take i).flatten.map (Value.int .u8)) ∧ New h h', fun (s : (Option Addr × Nat × Nat) × Int) _ => ((l.length : Int) - s.2).toNat, ⟨0, rfl, Nat.zero_le _, rfl, o1, n1⟩, ?_⟩
  rintro ⟨⟨oa, on, oc⟩, s⟩ j h2 ⟨i, hsi, hi, hon, o2, n2⟩
  have hsi : s = (i : Int) := hsi
  have hon : on = (l.take i).flatten.length := hon
  have o2' : OwnH h2 h.size 5 1 oa (l.take i).flatten.length oc ((l.take i).flatten.map (Value.int .u8)) := o2
  subst hsi; subst hon
  have hti := flat_take_le l i
  refine br_of (fun hlt => ?_) (fun hlt => ?_)
  · have hlt : (i : Int) < (l.length : Int) := of_decide_eq_true hlt
    have hiL : i < l.length := by omega
    have hfs := flat_succ l i hiL
    have hti' := flat_take_le l (i + 1)
    have ez : IntKind.wrap .i64 ((i : Int) + 1) = ((i + 1 : Nat) : Int) := (by first | (rw [wr64 (by omega) (by omega)]; omega) | (simp only [IntKind.wrap_i64]; omega))
    have hfl := congrArg List.length hfs
    rw [List.length_append] at hfl
    refine (r.new n2).ld hiL hiL fun a' c' sb => ?_
    have hpos : 0 < l[i].length := List.length_pos_iff.2 (hne _ (List.getElem_mem hiL))
    obtain ⟨b, o, rfl, _, _⟩ := sb.ar 0 _ (List.getElem?_eq_getElem hpos)
    refine ap_own ap8' (by decide) o2' (l[i].map (Value.int .u8)) (by simp) (fun q u hu => ?_) (fun u hu => ?_) (show (l.take i).flatten.length + l[i].length ≤ maxLen by simp only [maxLen]; omega) (show ((l.take i).flatten.length + l[i].length) * 1 ≤ 140737488355328 by omega) n2.size fun a3 c3 h3 o3 u3 => ?_
    · rw [List.getElem?_map] at hu
      cases hq : l[i][q]? with
      | none => rw [hq] at hu; cases hu
      | some x =>
        rw [hq] at hu
        obtain ⟨b', o', e', _, hc'⟩ := sb.ar q x hq
        injection e' with e'; injection e' with e1 e2
        rw [add_mk, e1, e2, hc']; exact hu
    · obtain ⟨x, _, rfl⟩ := List.mem_map.1 hu; rfl
    · have hN : New h h3 := u3.grow n2 fun g hg => (o2'.blk_ge g hg).1
      rw [← List.map_append, ← hfs, ← hfl] at o3
      simp only [ez, ← hfl]
      exact ⟨⟨i + 1, rfl, hiL, rfl, o3, hN⟩, (by first | omega | (dsimp only; omega) | (simp only []; omega))⟩
  · have : i = l.length := by
      have hlt : ¬ (i : Int) < (l.length : Int) := of_decide_eq_false hlt
      omega
    subst this
    rw [List.take_length] at o2' ⊢
    exact ⟨oa, oc, rfl, o2', n2⟩
/-- Rows of rows of words. -/
def RW (h : Heap) (a : Option Addr) (l : List (List Int)) : Prop := ∀ (i : Nat) (bs : List Int), l[i]? = some bs → ∃ b o a' c', a = some ⟨b, o, none⟩ ∧ b < h.size ∧ cellH h ⟨b, o + i, none⟩ = some (.slice a' bs.length c') ∧ Ar .u32 h a' bs
theorem RW.new {h h' : Heap} {a : Option Addr} {l : List (List Int)} (r : RW h a l) (n : New h h') : RW h' a l := fun i bs hi => by
  obtain ⟨b, o, a', c', e, hl, hc, s⟩ := r i bs hi
  exact ⟨b, o, a', c', e, Nat.lt_of_lt_of_le hl n.size, by rw [cellH_same (n.same b hl)]; exact hc, s.new n⟩
theorem RW.ld {h : Heap} {a : Option Addr} {l : List (List Int)} (r : RW h a l) {i n : Nat} (hi : i < l.length) (hn : i < n) {F : Option Addr × Nat × Nat → Prop} (hF : ∀ a' c', Ar .u32 h a' l[i] → F (a', l[i].length, c')) :
    ptrW a (fun p => idxW (i : Int) n true (ldW .slice (Addr.add p (Int.toNat (i : Int) * 1)) F h)) := by
  obtain ⟨b, o, a', c', rfl, _, hc, s⟩ := r i _ (List.getElem?_eq_getElem hi)
  refine ⟨⟨⟨by omega, by omega⟩, rfl⟩, ld_of (c := .slice) (a', l[i].length, c') ?_ (hF a' c' s)⟩
  rw [add_mk, Int.toNat_natCast, Nat.mul_one]; exact hc
theorem concat32_ok (a : Option Addr) (c : Nat) (l : List (List Int)) (h : Heap) (r : RW h a l) (hl : l.length ≤ 1000) (hs : l.flatten.length ≤ 100000) (hne : ∀ b ∈ l, b ≠ []) :
    CallsH Tryz.prog 111 [.slice a l.length c] h fun v h' => ∃ a' c', v = .slice a' l.flatten.length c' ∧ OwnH h' h.size 35 1 a' l.flatten.length c' (l.flatten.map (Value.int .u32)) ∧ New h h' := by
  refine fun_ok Geo.hm' Tryz.func111 (by kernel_rfl) (F111_eq _ _ _ _ h) ?_
  unfold F111
  refine ⟨fun (s : Int × Int) h' => h' = h ∧ ∃ i : Nat, s.2 = i ∧ i ≤ l.length ∧ s.1 = ((l.take i).flatten.length : Int), fun (s : Int × Int) _ => ((l.length : Int) - s.2).toNat, ⟨rfl, 0, rfl, Nat.zero_le _, rfl⟩, ?_⟩
  rintro ⟨sz, s⟩ j h' ⟨hh, i, hsi, hi, hsz⟩
  have hsi : s = (i : Int) := hsi
  have hsz : sz = ((l.take i).flatten.length : Int) := hsz
  subst h'; subst hsi; subst hsz
  have hti := flat_take_le l i
  refine br_of (fun hlt => ?_) (fun hlt => ?_)
  · have hlt : (i : Int) < (l.length : Int) := of_decide_eq_true hlt
    have hiL : i < l.length := by omega
    have hfs := flat_succ l i hiL
    have hti' := flat_take_le l (i + 1)
    have hfl := congrArg List.length hfs
    rw [List.length_append] at hfl
    refine r.ld hiL hiL fun a' c' _ => ?_
    have ew : IntKind.wrap .i64 (((l.take i).flatten.length : Int) + (l[i].length : Int)) = ((l.take (i + 1)).flatten.length : Int) := by rw [wr64 (by omega) (by omega)]; omega
    have ez : IntKind.wrap .i64 ((i : Int) + 1) = ((i + 1 : Nat) : Int) := (by first | (rw [wr64 (by omega) (by omega)]; omega) | (simp only [IntKind.wrap_i64]; omega))
    simp only [ew, ez]
    exact br_f (decide_eq_false (by omega)) ⟨⟨trivial, i + 1, rfl, hiL, rfl⟩, (by first | omega | (dsimp only; omega) | (simp only []; omega))⟩
  have : i = l.length := by
    have hlt : ¬ (i : Int) < (l.length : Int) := of_decide_eq_false hlt
    omega
  subst this
  rw [List.take_length]
  refine call_of (grow32_ok l.flatten.length h hs) ?_
  rintro v h1 ⟨a1, c1, rfl, o1, n1⟩
  refine ⟨(a1, 0, c1), rfl, ?_⟩
  refine ⟨fun (s : (Option Addr × Nat × Nat) × Int) h' => ∃ i : Nat, s.2 = i ∧ i ≤ l.length ∧ s.1.2.1 = (l.take i).flatten.length ∧ OwnH h' h.size 35 1 s.1.1 (l.take i).flatten.length s.1.2.2 ((l.take i).flatten.map (Value.int .u32)) ∧ New h h', fun (s : (Option Addr × Nat × Nat) × Int) _ => ((l.length : Int) - s.2).toNat, ⟨0, rfl, Nat.zero_le _, rfl, o1, n1⟩, ?_⟩
  rintro ⟨⟨oa, on, oc⟩, s⟩ j h2 ⟨i, hsi, hi, hon, o2, n2⟩
  have hsi : s = (i : Int) := hsi
  have hon : on = (l.take i).flatten.length := hon
  have o2' : OwnH h2 h.size 35 1 oa (l.take i).flatten.length oc ((l.take i).flatten.map (Value.int .u32)) := o2
  subst hsi; subst hon
  have hti := flat_take_le l i
  refine br_of (fun hlt => ?_) (fun hlt => ?_)
  · have hlt : (i : Int) < (l.length : Int) := of_decide_eq_true hlt
    have hiL : i < l.length := by omega
    have hfs := flat_succ l i hiL
    have hti' := flat_take_le l (i + 1)
    have ez : IntKind.wrap .i64 ((i : Int) + 1) = ((i + 1 : Nat) : Int) := (by first | (rw [wr64 (by omega) (by omega)]; omega) | (simp only [IntKind.wrap_i64]; omega))
    have hfl := congrArg List.length hfs
    rw [List.length_append] at hfl
    refine (r.new n2).ld hiL hiL fun a' c' sb => ?_
    have hpos : 0 < l[i].length := List.length_pos_iff.2 (hne _ (List.getElem_mem hiL))
    obtain ⟨b, o, rfl, _, _⟩ := sb 0 _ (List.getElem?_eq_getElem hpos)
    refine ap_own ap32 (by decide) o2' (l[i].map (Value.int .u32)) (by simp) (fun q u hu => ?_) (fun u hu => ?_) (show (l.take i).flatten.length + l[i].length ≤ maxLen by simp only [maxLen]; omega) (show ((l.take i).flatten.length + l[i].length) * 4 ≤ 140737488355328 by omega) n2.size fun a3 c3 h3 o3 u3 => ?_
    · rw [List.getElem?_map] at hu
      cases hq : l[i][q]? with
      | none => rw [hq] at hu; cases hu
      | some x =>
        rw [hq] at hu
        obtain ⟨b', o', e', _, hc'⟩ := sb q x hq
        injection e' with e'; injection e' with e1 e2
        rw [add_mk, e1, e2, hc']; exact hu
    · obtain ⟨x, _, rfl⟩ := List.mem_map.1 hu; rfl
    · have hN : New h h3 := u3.grow n2 fun g hg => (o2'.blk_ge g hg).1
      rw [← List.map_append, ← hfs, ← hfl] at o3
      simp only [ez, ← hfl]
      exact ⟨⟨i + 1, rfl, hiL, rfl, o3, hN⟩, (by first | omega | (dsimp only; omega) | (simp only []; omega))⟩
  · have : i = l.length := by
      have hlt : ¬ (i : Int) < (l.length : Int) := of_decide_eq_false hlt
      omega
    subst this
    rw [List.take_length] at o2' ⊢
    exact ⟨oa, oc, rfl, o2', n2⟩
end Go.Proofs.YthimfpkkdhpceaaGreatDoor.Ck
/-
  Going through a checkpoint's numbers.
-/
namespace Go.Proofs.YthimfpkkdhpceaaGreatDoor.Ck
open Go.Pl Go.Proofs.YthimfpkkdhpceaaGreatDoor.W Go.Proofs.YthimfpkkdhpceaaGreatDoor.Byts Go.Proofs.YthimfpkkdhpceaaGreatDoor.Four Go.Proofs.YthimfpkkdhpceaaGreatDoor.Adl Go.Proofs.YthimfpkkdhpceaaGreatDoor.Head Go.Proofs.YthimfpkkdhpceaaGreatDoor.Geo
theorem yield_of {P : Program} {T : Ty} {l : Nat} {args : List Value} {F : T.T → Heap → Prop} {h : Heap} {R : Bool → Heap → Prop} (hY : YieldH P l args h R) (hR : ∀ b h', R b h' → ∃ s : T.T, Value.bool b = T.val s ∧ F s h') : callW P T (.func (.yield l) #[] #[]) args F h := YieldH.mono hY hR
theorem all_ok (c : Chk) (da : Option Addr) (dc : Nat) (h : Heap) :
    CallsH Tryz.prog 69 [chkV c da dc] h fun v h' => v = .func (.func 110) #[] #[.pointer (some ⟨h.size, 0, none⟩)] ∧ Blk h' h.size (chkA c da dc) 40 ∧ New h h' ∧ h'.size = h.size + 1 := by
  refine fun_ok Geo.hm' Tryz.func69 (by kernel_rfl) (F69_eq _ _ _ _ _ _ _ _ _ _ h) ?_
  unfold F69
  exact new_of fun h1 b1 n1 s1 => ⟨rfl, b1, n1, s1⟩
theorem range_nums {Inner : Nat → LoopO → TT [.sc (.int .u32)] → (Bool → Heap → Prop) → Heap → Prop} {E : Nat → LoopO → Heap → Prop} {h : Heap} {cap dc : Nat} {da : Option Addr} {T : TypeId} (c : Chk) (hr : rightC c = true)
    (J : Heap → Nat → List Int → Heap → Prop)
    (j0 : ∀ hq l, New h hq → h.size ≤ l → l < hq.size → J hq l [] hq)
    (jo : ∀ hq l pre h1 h2, J hq l pre h1 → Only l h1 h2 → J hq l pre h2)
    (js : ∀ hq l pre h1, J hq l pre h1 → hq.size ≤ h1.size ∧ ∀ b, h.size ≤ b → b < hq.size → b ≠ l → h1[b]? = hq[b]?)
    (hc : Blk h cap (chkA c da dc) T) (hd : Ar .u32 h da c.dir)
    (hI : ∀ hq l o Y pre (x : Int) post h1, numsC c = pre ++ x :: post → J hq l pre h1 → (∀ h2, J hq l (pre ++ [x]) h2 → roundEnd l (LoopO.rdy o) (Y true) h2) → Inner l o x Y h1)
    (hE : ∀ hq l o h3, (∀ N : Heap → Prop, (∀ h4, J hq l (numsC c) h4 → N h4) → roundDone l (LoopO.rdy o) N h3) → E l o h3) :
    rangeW Tryz.prog 110 [] [.pointer (some ⟨cap, 0, none⟩)] [.sc (.int .u32)] (fun l o s Y h1 => roundIn l o (Inner l o s Y) h1) E h := by
  rintro l o ho hl0 hy
  have nb : New h ((h.push (.deferred (some []))).push o.rdy) := (New.push _ _).trans (New.push _ _)
  have hrdy : ((h.push (.deferred (some []))).push o.rdy)[h.size + 1]? = some o.rdy := by rw [Array.getElem?_push, if_pos (by simp)]
  have hsz : ((h.push (.deferred (some []))).push o.rdy).size = h.size + 2 := by simp
  rw [← hl0] at hrdy
  generalize (h.push (.deferred (some []))).push o.rdy = hb0 at *
  obtain ⟨_, hz, hp, hb, hdl⟩ := right_c hr
  have ht : tabN c.b ≤ 16 ∧ 1 ≤ tabN c.b := by unfold tabN; omega
  refine fun_ok Geo.hm' Tryz.func110 (by kernel_rfl) (F110_eq _ _ _ hb0) ?_
  unfold F110
  have bc := hc.new nb
  refine ld_of (c := .int .u32) c.num (by rw [add_mk, cellH_blk bc]; rfl) (ld_of (c := .int .u32) c.ses (by rw [add_mk, cellH_blk bc]; rfl) (ld_of (c := .int .u32) c.seq (by rw [add_mk, cellH_blk bc]; rfl) (ld_of (c := .int .i64) c.z (by rw [add_mk, add_mk, cellH_blk bc]; rfl) (ld_of (c := .int .i64) c.p (by rw [add_mk, add_mk, cellH_blk bc]; rfl) (ld_of (c := .int .i64) c.b (by rw [add_mk, add_mk, cellH_blk bc]; rfl) ?_)))))
  have w : ∀ x : Int, 0 ≤ x ∧ x ≤ 100 → IntKind.wrap .u32 x = x := fun x hx => by rw [wru32]; omega
  rw [w c.z (by omega), w c.p (by omega), w c.b (by omega)]
  refine new_of fun h1 b1 n1 s1 => ld_of (c := .slice) (da, c.dir.length, dc) (by rw [add_mk, cellH_blk (bc.new n1)]; rfl) (new_of fun h2 b2 n2 s2 => ?_)
  have n02 := (nb.trans n1).trans n2
  have rw2 : RW h2 (some ⟨h1.size, 0, none⟩) [[c.num, c.ses, c.seq, c.z, c.p, c.b], c.dir] := fun i bs hi => by
    match i, hi with
    | 0, hi =>
      injection hi with hi; subst hi
      exact ⟨h1.size, 0, _, 6, rfl, b2.lt, by rw [cellH_blk b2]; rfl, Ar.blk (b1.new n2)⟩
    | 1, hi =>
      injection hi with hi; subst hi
      exact ⟨h1.size, 0, da, dc, rfl, b2.lt, by rw [cellH_blk b2]; rfl, hd.new n02⟩
    | i + 2, hi => simp at hi
  have hnl : (numsC c).length = 6 + c.dir.length := by unfold numsC; simp; omega
  have hfl : ([[c.num, c.ses, c.seq, c.z, c.p, c.b], c.dir] : List (List Int)).flatten = numsC c := by unfold numsC; simp
  have hcc := concat32_ok (some ⟨h1.size, 0, none⟩) 2 [[c.num, c.ses, c.seq, c.z, c.p, c.b], c.dir] h2 rw2 (by simp) (by rw [hfl, hnl]; omega) (fun b hb e => by
    simp only [List.mem_cons, List.not_mem_nil, or_false] at hb
    rcases hb with hb | hb
    · rw [hb] at e; cases e
    · rw [hb] at e; rw [e] at hdl; simp at hdl; omega)
  rw [hfl] at hcc
  refine call_of hcc ?_
  rintro v h3 ⟨a, ca, rfl, own, n3⟩
  have n03 := n02.trans n3
  have hs1 := (n1.trans n2).size
  have hs3 := n3.size
  have r3 : h3[l]? = some o.rdy := (((n1.trans n2).trans n3).same l (by omega)).trans hrdy
  have ar := Ar.own own
  refine ⟨(a, (numsC c).length, ca), rfl, ?_⟩
  refine ⟨fun (s : Int) h' => ∃ i : Nat, s = i ∧ i ≤ (numsC c).length ∧ J h3 l ((numsC c).take i) h' ∧ h'[l]? = some o.rdy, fun (s : Int) _ => (((numsC c).length : Int) - s).toNat, ⟨0, rfl, Nat.zero_le _, j0 h3 l n03 (by omega) (by omega), r3⟩, ?_⟩
  rintro s j h4 ⟨i, rfl, hi, J4, r4⟩
  refine br_of (fun hlt => ?_) (fun hlt => ?_)
  · have hlt : (i : Int) < ((numsC c).length : Int) := of_decide_eq_true hlt
    have hiL : i < (numsC c).length := by omega
    obtain ⟨sz, sm⟩ := js _ _ _ _ J4
    have ar4 : Ar .u32 h4 a (numsC c) := fun m x hx => by
      obtain ⟨b, q, e, hpb, hcb⟩ := ar m x hx
      have hge := (own.blk_ge b (by rw [e]; rfl)).1
      have := n02.size
      exact ⟨b, q, e, by omega, by rw [cellH_same (sm b (by omega) hpb (by omega))]; exact hcb⟩
    refine ix_ld ar4 hiL hiL ?_
    have hsplit : numsC c = (numsC c).take i ++ (numsC c)[i] :: (numsC c).drop (i + 1) := by rw [← List.drop_eq_getElem_cons hiL, List.take_append_drop]
    have ez : IntKind.wrap .i64 ((i : Int) + 1) = ((i + 1 : Nat) : Int) := (by first | (rw [wr64 (by omega) (by omega)]; omega) | (simp only [IntKind.wrap_i64]; omega))
    have hY := hy (numsC c)[i] h4 (fun t h' => t = true ∧ J h3 l ((numsC c).take (i + 1)) h' ∧ h'[l]? = some o.rdy) r4 ⟨r4, fun h5 o5 _ => hI h3 l o _ ((numsC c).take i) (numsC c)[i] ((numsC c).drop (i + 1)) h5 hsplit (jo _ _ _ _ _ J4 o5) fun h6 J6 h7 o7 r7 => ⟨rfl, by rw [← List.take_append_getElem hiL]; exact jo _ _ _ _ _ J6 o7, r7⟩⟩
    refine yield_of hY ?_
    rintro t h5 ⟨rfl, J5, r5⟩
    refine ⟨true, rfl, br_f rfl ?_⟩
    rw [ez]
    exact ⟨⟨i + 1, rfl, hiL, J5, r5⟩, (by first | omega | (dsimp only; omega) | (simp only []; omega))⟩
  · have hlt : ¬ (i : Int) < ((numsC c).length : Int) := of_decide_eq_false hlt
    have : i = (numsC c).length := by omega
    subst this
    rw [List.take_length] at J4
    exact hE h3 l o h4 fun N hN => ⟨r4, fun h5 o5 => hN h5 (jo _ _ _ _ _ J4 o5)⟩
end Go.Proofs.YthimfpkkdhpceaaGreatDoor.Ck
/-
  slices.Chunk: the parts of a row of bytes.
-/
namespace Go.Proofs.YthimfpkkdhpceaaGreatDoor.Ck
open Go.Pl Go.Proofs.YthimfpkkdhpceaaGreatDoor.W Go.Proofs.YthimfpkkdhpceaaGreatDoor.Byts Go.Proofs.YthimfpkkdhpceaaGreatDoor.Four Go.Proofs.YthimfpkkdhpceaaGreatDoor.Adl Go.Proofs.YthimfpkkdhpceaaGreatDoor.Head Go.Proofs.YthimfpkkdhpceaaGreatDoor.Geo
theorem chunk_ok (a : Option Addr) (n c : Nat) (h : Heap) :
    CallsH Tryz.prog 74 [.slice a n c, .int .i64 16] h fun v h' => v = .func (.func 113) #[] #[.pointer (some ⟨h.size, 0, none⟩), .pointer (some ⟨h.size + 1, 0, none⟩)] ∧ Blk h' h.size #[.slice a n c] 68 ∧ Blk h' (h.size + 1) #[.int .i64 16] 3 ∧ New h h' ∧ h'.size = h.size + 2 := by
  refine fun_ok Geo.hm' Tryz.func74 (by kernel_rfl) (F74_eq _ _ _ _ _ h) ?_
  unfold F74
  refine new_of fun h1 b1 n1 s1 => new_of fun h2 b2 n2 s2 => ld_of (c := .int .i64) (16 : Int) (by rw [cellH_blk b2]; rfl) (br_f rfl ?_)
  rw [s1] at b2 ⊢
  exact ⟨rfl, b1.new n2, b2, n1.trans n2, by omega⟩
/-- A part of sixteen bytes. -/
theorem sl_chunk {h : Heap} {a : Option Addr} {c : Nat} {bs : List Int} (s : Sl8 h a c bs) {i : Nat} (hi : 16 * i + 16 ≤ bs.length) : Sl8 h (sliceBase a (16 * i) (16 * i + 16) 1) 16 ((bs.drop (16 * i)).take 16) := by
  have := s.sl (lo := ((16 * i : Nat) : Int)) (hi := ((16 * i + 16 : Nat) : Int)) (mx := ((16 * i + 16 : Nat) : Int)) (16 * i) (16 * i + 16) (16 * i + 16) rfl rfl rfl (by omega) hi (Nat.le_refl _) (by have := s.le; omega) (F := fun b _ d => Sl8 h b d ((bs.drop (16 * i)).take (16 * i + 16 - 16 * i))) fun b d sb => sb
  have h2 := this.2
  rw [Int.toNat_natCast, Int.toNat_natCast, show 16 * i + 16 - 16 * i = 16 by omega] at h2
  exact h2
theorem range_chunk {Inner : Nat → LoopO → TT [.sc .slice] → (Bool → Heap → Prop) → Heap → Prop} {E : Nat → LoopO → Heap → Prop} {h : Heap} {c0 c1 c m : Nat} {a : Option Addr} {bs : List Int} (hlen : bs.length = 16 * m) (hm : m ≤ 1000)
    (J : Heap → Nat → Nat → Heap → Prop)
    (j0 : ∀ hq l, New h hq → h.size ≤ l → l < hq.size → J hq l 0 hq)
    (jo : ∀ hq l i h1 h2, J hq l i h1 → Only l h1 h2 → J hq l i h2)
    (jc : ∀ hq l i h1, J hq l i h1 → cellH h1 ⟨c0, 0, none⟩ = some (.slice a bs.length c) ∧ cellH h1 ⟨c1, 0, none⟩ = some (.int .i64 16) ∧ Sl8 h1 a c bs)
    (hI : ∀ hq l o Y i h1, i < m → J hq l i h1 → (∀ h2, J hq l (i + 1) h2 → roundEnd l (LoopO.rdy o) (Y true) h2) → Inner l o (sliceBase a (16 * i) (16 * i + 16) 1, 16, 16) Y h1)
    (hE : ∀ hq l o h3, (∀ N : Heap → Prop, (∀ h4, J hq l m h4 → N h4) → roundDone l (LoopO.rdy o) N h3) → E l o h3) :
    rangeW Tryz.prog 113 [] [.pointer (some ⟨c0, 0, none⟩), .pointer (some ⟨c1, 0, none⟩)] [.sc .slice] (fun l o s Y h1 => roundIn l o (Inner l o s Y) h1) E h := by
  rintro l o ho hl0 hy
  have nb : New h ((h.push (.deferred (some []))).push o.rdy) := (New.push _ _).trans (New.push _ _)
  have hrdy : ((h.push (.deferred (some []))).push o.rdy)[h.size + 1]? = some o.rdy := by rw [Array.getElem?_push, if_pos (by simp)]
  have hsz : ((h.push (.deferred (some []))).push o.rdy).size = h.size + 2 := by simp
  rw [← hl0] at hrdy
  generalize (h.push (.deferred (some []))).push o.rdy = hb0 at *
  refine fun_ok Geo.hm' Tryz.func113 (by kernel_rfl) (F113_eq _ _ _ _ hb0) ?_
  unfold F113
  refine ⟨fun (s : Int) h' => ∃ i : Nat, s = ((16 * i : Nat) : Int) ∧ i ≤ m ∧ J hb0 l i h' ∧ h'[l]? = some o.rdy, fun (s : Int) _ => ((bs.length : Int) - s).toNat, ⟨0, rfl, Nat.zero_le _, j0 hb0 l nb (by omega) (by omega), hrdy⟩, ?_⟩
  rintro s j h4 ⟨i, rfl, hi, J4, r4⟩
  obtain ⟨k0, k1, sb⟩ := jc _ _ _ _ J4
  have hcl := sb.le
  refine ld_of (c := .slice) (a, bs.length, c) k0 (br_of (fun hlt => ?_) (fun hlt => ?_))
  · have hlt : ((16 * i : Nat) : Int) < (bs.length : Int) := of_decide_eq_true hlt
    have hiL : i < m := by omega
    refine ld_of (c := .int .i64) (16 : Int) k1 (ld_of (c := .slice) (a, bs.length, c) k0 ?_)
    refine ⟨⟨by omega, (by first | omega | (dsimp only; omega) | (simp only []; omega)), (by first | omega | (dsimp only; omega) | (simp only []; omega)), (by first | omega | (dsimp only; omega) | (simp only []; omega))⟩, ?_⟩
    refine ld_of (c := .slice) (a, bs.length, c) k0 ?_
    have e1 : IntKind.wrap .i64 (((16 * i : Nat) : Int) + (mm2 false 16 (((((bs.length : Int)).toNat - (((16 * i : Nat) : Int)).toNat : Nat) : Int)))) = ((16 * i + 16 : Nat) : Int) := by
      rw [mm2_min, wr64 (by omega) (by omega)]; omega
    rw [e1]
    refine ⟨⟨by omega, by omega, by omega, (by first | omega | (dsimp only; omega) | (simp only []; omega))⟩, ?_⟩
    rw [Int.toNat_natCast, Int.toNat_natCast, show 16 * i + 16 - 16 * i = 16 by omega]
    have hY := hy (sliceBase a (16 * i) (16 * i + 16) 1, 16, 16) h4 (fun t h' => t = true ∧ J hb0 l (i + 1) h' ∧ h'[l]? = some o.rdy) r4 ⟨r4, fun h5 o5 _ => hI hb0 l o _ i h5 hiL (jo _ _ _ _ _ J4 o5) fun h6 J6 h7 o7 r7 => ⟨rfl, jo _ _ _ _ _ J6 o7, r7⟩⟩
    refine yield_of hY ?_
    rintro t h5 ⟨rfl, J5, r5⟩
    obtain ⟨_, k15, _⟩ := jc _ _ _ _ J5
    refine ⟨true, rfl, br_f rfl (ld_of (c := .int .i64) (16 : Int) k15 ?_)⟩
    have ez : IntKind.wrap .i64 (((16 * i : Nat) : Int) + 16) = ((16 * (i + 1) : Nat) : Int) := by rw [wr64 (by omega) (by omega)]; omega
    rw [ez]
    exact ⟨⟨i + 1, rfl, hiL, J5, r5⟩, (by first | omega | (dsimp only; omega) | (simp only []; omega))⟩
  · have hlt : ¬ ((16 * i : Nat) : Int) < (bs.length : Int) := of_decide_eq_false hlt
    have : i = m := by omega
    subst this
    exact hE hb0 l o h4 fun N hN => ⟨r4, fun h5 o5 => hN h5 (jo _ _ _ _ _ J4 o5)⟩
end Go.Proofs.YthimfpkkdhpceaaGreatDoor.Ck
/-
  A loop over a func, with a list in a variable.
-/
namespace Go.Proofs.YthimfpkkdhpceaaGreatDoor.Rng
open Go.Pl
/-- Going on, with a list in the variable B. -/
structure JL {α : Type} (B : Nat) (TL TE : TypeId) (size : Nat) (len : α → Nat) (vs : α → List Value) (hq : Heap) (l : Nat) (pre : α) (h' : Heap) : Prop where
  sizes : hq.size ≤ h'.size
  same : ∀ b, b < hq.size → b ≠ B → b ≠ l → h'[b]? = hq[b]?
  var : ∃ a lc, Blk h' B #[.slice a (len pre) lc] TL ∧ OwnH h' hq.size TE size a (len pre) lc (vs pre)
  lB : B < l
  lq : l < hq.size
theorem JL.only {α : Type} {B l size : Nat} {TL TE : TypeId} {len : α → Nat} {vs : α → List Value} {hq h1 h2 : Heap} {pre : α} (j : JL B TL TE size len vs hq l pre h1) (o : Only l h1 h2) : JL B TL TE size len vs hq l pre h2 := by
  obtain ⟨a, lc, hb, ow⟩ := j.var
  have hl := j.lB
  have hq := j.lq
  exact ⟨by rw [o.size]; exact j.sizes, fun b hb h1 h2 => (o.same b h2).trans (j.same b hb h1 h2), ⟨a, lc, hb.only o (by omega), ow.keep fun g _ hg _ _ => o.same g (by omega)⟩, hl, hq⟩
theorem JL.new {α : Type} {B l size : Nat} {TL TE : TypeId} {len : α → Nat} {vs : α → List Value} {hq h1 h2 : Heap} {pre : α} (j : JL B TL TE size len vs hq l pre h1) (o : New h1 h2) : JL B TL TE size len vs hq l pre h2 := by
  obtain ⟨a, lc, hb, ow⟩ := j.var
  have hs := j.sizes
  exact ⟨Nat.le_trans hs o.size, fun b hb h1 h2 => (o.same b (by omega)).trans (j.same b hb h1 h2), ⟨a, lc, hb.new o, ow.keep fun g _ _ hg _ => o.same g hg.lt⟩, j.lB, j.lq⟩
theorem JL.stay {α : Type} {B l size : Nat} {TL TE : TypeId} {len : α → Nat} {vs : α → List Value} {hq h1 : Heap} {pre pre' : α} (j : JL B TL TE size len vs hq l pre h1) (hl : len pre' = len pre) (hv : vs pre' = vs pre) : JL B TL TE size len vs hq l pre' h1 := by
  refine ⟨j.sizes, j.same, ?_, j.lB, j.lq⟩
  rw [hl, hv]; exact j.var
theorem JL.grown {α : Type} {B l size n' : Nat} {TL TE : TypeId} {len : α → Nat} {vs : α → List Value} {hq h1 h2 : Heap} {pre pre' : α} {a a' : Option Addr} {lc c' : Nat} {F : Heap → Prop} (j : JL B TL TE size len vs hq l pre h1) (hb : Blk h1 B #[.slice a (len pre) lc] TL) (ow : OwnH h1 hq.size TE size a (len pre) lc (vs pre))
    (u : UpdO (blkOf a) h1 h2) (hl : len pre' = n') (o2 : OwnH h2 hq.size TE size a' n' c' (vs pre')) (hF : ∀ h3, JL B TL TE size len vs hq l pre' h3 → F h3) : stW ⟨B, 0, none⟩ (.slice a' n' c') F h2 := by
  subst hl
  have hBl := j.lB
  have hlq := j.lq
  have hs := j.sizes
  have hga : ∀ g, blkOf a = some g → hq.size ≤ g := fun g hg => by
    rcases ow.row.2 with ⟨rfl, _⟩ | ⟨g', cur, rfl, hg', _⟩
    · cases hg
    · injection hg with hg; change g' = g at hg; omega
  have b2 : Blk h2 B #[.slice a (len pre) lc] TL := (u.same B hb.lt (fun e => by have := hga B e.symm; omega)).trans hb
  refine st_blk b2 (by simp) fun h3 b3 o3 => hF h3 ⟨by rw [o3.size]; have := u.size; omega, fun b hb h1 h2 => ?_, ⟨a', c', b3, o2.keep fun g _ hg _ _ => o3.same g (by omega)⟩, hBl, hlq⟩
  rw [o3.same b h1, u.same b (by omega) (fun e => by have := hga b e.symm; omega), j.same b hb h1 h2]
theorem Tk_blk {n : Nat} {h h' : Heap} (t : Taken n h h') {b : Nat} {arr : Array Value} {T : TypeId} (hb : Blk h b arr T) : h'[b]? = h[b]? := by
  rcases t.same b with e | ⟨_, e, _⟩
  · exact e
  · have hb' : h[b]? = some (.cells arr T) := hb
    rw [e] at hb'; cases hb'
theorem Tk_low {n : Nat} {h h' : Heap} (t : Taken n h h') {b : Nat} (hb : b < n) : h'[b]? = h[b]? := by
  rcases t.same b with e | ⟨h1, _⟩
  · exact e
  · omega
end Go.Proofs.YthimfpkkdhpceaaGreatDoor.Rng
/-
  slices.Collect of slices.Chunk.
-/
namespace Go.Proofs.YthimfpkkdhpceaaGreatDoor.Ck
open Go.Pl Go.Proofs.YthimfpkkdhpceaaGreatDoor.W Go.Proofs.YthimfpkkdhpceaaGreatDoor.Byts Go.Proofs.YthimfpkkdhpceaaGreatDoor.Four Go.Proofs.YthimfpkkdhpceaaGreatDoor.Adl Go.Proofs.YthimfpkkdhpceaaGreatDoor.Head Go.Proofs.YthimfpkkdhpceaaGreatDoor.Geo Go.Proofs.YthimfpkkdhpceaaGreatDoor.Rng
def partV (a : Option Addr) (m : Nat) : List Value := (List.range m).map fun j => .slice (sliceBase a (16 * j) (16 * j + 16) 1) 16 16
theorem partV_succ (a : Option Addr) (m : Nat) : partV a (m + 1) = partV a m ++ [.slice (sliceBase a (16 * m) (16 * m + 16) 1) 16 16] := by unfold partV; rw [List.range_succ, List.map_append]; rfl
theorem ap88 : apB Tryz.prog 67 68 1 24 = true := by kernel_rfl
theorem seq_ok {c0 c1 c m : Nat} {a : Option Addr} {bs : List Int} (hlen : bs.length = 16 * m) (hm : m ≤ 1000) (h : Heap) {T0 T1 : TypeId} (k0 : Blk h c0 #[.slice a bs.length c] T0) (k1 : Blk h c1 #[.int .i64 16] T1) (sb : Sl8 h a c bs) :
    CallsH Tryz.prog 112 [.slice none 0 0, .func (.func 113) #[] #[.pointer (some ⟨c0, 0, none⟩), .pointer (some ⟨c1, 0, none⟩)]] h fun v h' => ∃ la lc, v = .slice la m lc ∧ OwnH h' h.size 68 1 la m lc (partV a m) ∧ New h h' := by
  refine fun_ok Geo.hm' Tryz.func112 (by kernel_rfl) (F112_eq _ _ _ _ _ h) ?_
  unfold F112
  refine new_of fun h1 b1 n1 s1 => ?_
  refine range_chunk (c0 := c0) (c1 := c1) (c := c) (a := a) (bs := bs) (m := m) hlen hm
    (fun hq l i h2 => JL h.size 67 68 1 (fun i : Nat => i) (partV a) hq l i h2 ∧ New h1 hq ∧ h1.size ≤ l)
    (fun hq l nq h3 h4 => ⟨⟨Nat.le_refl _, fun _ _ _ _ => rfl, ⟨none, 0, b1.new nq, OwnH.nil _ _ _ _⟩, by omega, h4⟩, nq, h3⟩)
    (fun hq l i h3 h4 j o => ⟨j.1.only o, j.2⟩) (fun hq l i h3 j => ?_) ?_ ?_
  · have lo : ∀ b, b < h.size → h3[b]? = h[b]? := fun b hb => by
      have := j.2.1.size
      rw [j.1.same b (by omega) (by omega) (by have := j.2.2; omega), j.2.1.same b (by omega), n1.same b hb]
    have hN : New h h3 := ⟨by have := j.2.1.size; have := j.1.sizes; omega, lo⟩
    exact ⟨by rw [cellH_blk (k0.new hN)]; rfl, by rw [cellH_blk (k1.new hN)]; rfl, sb.new hN⟩
  · rintro hq l o Y i h3 hi ⟨j, nq, hl⟩ hend
    obtain ⟨la, lc, hb, ow⟩ := j.var
    refine ld_of (c := .slice) (la, i, lc) (by rw [cellH_blk hb]; rfl) (new_of fun h4 b4 n4 s4 => ?_)
    have j4 := j.new n4
    have ow4 : OwnH h4 hq.size 68 1 la i lc (partV a i) := ow.grow n4
    refine ap_own ap88 (by decide) ow4 [.slice (sliceBase a (16 * i) (16 * i + 16) 1) 16 16] rfl (fun q u hu => ?_) (fun u hu => by rw [List.mem_singleton.1 hu]; rfl) (by simp only [maxLen]; omega) (by omega) j4.sizes fun a' c' h5 o5 u5 => ?_
    · have hq' : q = 0 := by have := (List.getElem?_eq_some_iff.1 hu).1; simp at this; omega
      subst hq'
      rw [add_mk, cellH_blk b4]; exact hu
    · rw [← partV_succ] at o5
      exact j4.grown (pre' := i + 1) (hb.new n4) ow4 u5 rfl o5 fun h6 j6 => hend h6 ⟨j6, nq, hl⟩
  · intro hq l o h3 hE
    refine .inl (hE _ fun h4 ⟨j, nq, hl⟩ => ?_)
    obtain ⟨la, lc, hb, ow⟩ := j.var
    refine ld_of (c := .slice) (la, m, lc) (by rw [cellH_blk hb]; rfl) ?_
    intro h5 t5
    have hs := j.sizes
    have hq2 := nq.size
    refine ⟨la, lc, rfl, OwnH.low (base := hq.size) (ow.keep fun _ _ _ hg _ => Tk_blk t5 hg) (by omega), ⟨by rw [t5.size]; omega, fun b hb => ?_⟩⟩
    rw [Tk_low t5 hb, j.same b (by omega) (by omega) (by omega), nq.same b (by omega), n1.same b hb]
theorem collect_ok {c0 c1 c m : Nat} {a : Option Addr} {bs : List Int} (hlen : bs.length = 16 * m) (hm : m ≤ 1000) (h : Heap) {T0 T1 : TypeId} (k0 : Blk h c0 #[.slice a bs.length c] T0) (k1 : Blk h c1 #[.int .i64 16] T1) (sb : Sl8 h a c bs) :
    CallsH Tryz.prog 73 [.func (.func 113) #[] #[.pointer (some ⟨c0, 0, none⟩), .pointer (some ⟨c1, 0, none⟩)]] h fun v h' => ∃ la lc, v = .slice la m lc ∧ OwnH h' h.size 68 1 la m lc (partV a m) ∧ New h h' := by
  refine fun_ok Geo.hm' Tryz.func73 (by kernel_rfl) (F73_eq _ _ h) ?_
  unfold F73
  refine call_of (seq_ok hlen hm h k0 k1 sb) ?_
  rintro v h1 ⟨la, lc, rfl, o, n⟩
  exact ⟨(la, m, lc), rfl, la, lc, rfl, o, n⟩
end Go.Proofs.YthimfpkkdhpceaaGreatDoor.Ck
/-
  ckpt.Same: are two checkpoints the same?
-/
namespace Go.Proofs.YthimfpkkdhpceaaGreatDoor.Ck
open Go.Pl Go.Proofs.YthimfpkkdhpceaaGreatDoor.W Go.Proofs.YthimfpkkdhpceaaGreatDoor.Byts Go.Proofs.YthimfpkkdhpceaaGreatDoor.Four Go.Proofs.YthimfpkkdhpceaaGreatDoor.Adl Go.Proofs.YthimfpkkdhpceaaGreatDoor.Head Go.Proofs.YthimfpkkdhpceaaGreatDoor.Geo
def sameC (c d : Chk) : Bool := (c.num == d.num) && ((c.ses == d.ses) && ((c.seq == d.seq) && ((c.z == d.z && (c.p == d.p && c.b == d.b)) && decide (c.dir = d.dir))))
theorem sameC_iff (c d : Chk) : sameC c d = true ↔ c = d := by
  obtain ⟨a1, a2, a3, a4, a5, a6, a7⟩ := c
  obtain ⟨b1, b2, b3, b4, b5, b6, b7⟩ := d
  simp [sameC, and_assoc]
theorem csame_ok (c d : Chk) (ca da : Option Addr) (cc dc : Nat) (h : Heap) (rc : Ar .u32 h ca c.dir) (rd : Ar .u32 h da d.dir) (hl : c.dir.length ≤ 1000) :
    CallsH Tryz.prog 27 [chkV c ca cc, chkV d da dc] h fun v h' => v = .bool (sameC c d) ∧ New h h' := by
  refine fun_ok Geo.hm' Tryz.func27 (by kernel_rfl) (F27_eq _ _ _ _ _ _ _ _ _ _ _ _ _ _ _ _ _ _ _ h) ?_
  unfold F27
  refine new_of fun h1 b1 n1 s1 => new_of fun h2 b2 n2 s2 => ?_
  have b1 := b1.new n2
  have n02 := n1.trans n2
  refine ld_of (c := .int .u32) c.num (by rw [add_mk, cellH_blk b1]; rfl) (ld_of (c := .int .u32) d.num (by rw [add_mk, cellH_blk b2]; rfl) (br_of (fun e1 => ?_) fun e1 => ⟨by unfold sameC; rw [e1]; rfl, n02⟩))
  refine ld_of (c := .int .u32) c.ses (by rw [add_mk, cellH_blk b1]; rfl) (ld_of (c := .int .u32) d.ses (by rw [add_mk, cellH_blk b2]; rfl) (br_of (fun e2 => ?_) fun e2 => ⟨by unfold sameC; rw [e1, e2]; rfl, n02⟩))
  refine ld_of (c := .int .u32) c.seq (by rw [add_mk, cellH_blk b1]; rfl) (ld_of (c := .int .u32) d.seq (by rw [add_mk, cellH_blk b2]; rfl) (br_of (fun e3 => ?_) fun e3 => ⟨by unfold sameC; rw [e1, e2, e3]; rfl, n02⟩))
  refine ldAgg_add (o := 0) (c.z, c.p, c.b) b1 ⟨rfl, rfl, rfl, trivial⟩ (ldAgg_add (o := 0) (d.z, d.p, d.b) b2 ⟨rfl, rfl, rfl, trivial⟩ ⟨_, geo_eq c.z c.p c.b d.z d.p d.b, br_of (fun e4 => ?_) fun e4 => ⟨by unfold sameC; rw [e1, e2, e3, e4]; rfl, n02⟩⟩)
  refine ld_of (c := .slice) (ca, c.dir.length, cc) (by rw [add_mk, cellH_blk b1]; rfl) (ld_of (c := .slice) (da, d.dir.length, dc) (by rw [add_mk, cellH_blk b2]; rfl) (call_of (equal_ok ca da cc dc c.dir d.dir h2 (by omega) (rc.new n02) (rd.new n02)) ?_))
  rintro v h' ⟨rfl, hh⟩; subst h'
  exact ⟨_, rfl, by unfold sameC; rw [e1, e2, e3, e4]; rfl, n02⟩
end Go.Proofs.YthimfpkkdhpceaaGreatDoor.Ck
/-
  ckpt.Blocks.
-/
namespace Go.Proofs.YthimfpkkdhpceaaGreatDoor.Ck
open Go.Pl Go.Proofs.YthimfpkkdhpceaaGreatDoor.W Go.Proofs.YthimfpkkdhpceaaGreatDoor.Byts Go.Proofs.YthimfpkkdhpceaaGreatDoor.Four Go.Proofs.YthimfpkkdhpceaaGreatDoor.Adl Go.Proofs.YthimfpkkdhpceaaGreatDoor.Head Go.Proofs.YthimfpkkdhpceaaGreatDoor.Geo Go.Proofs.YthimfpkkdhpceaaGreatDoor.Rng Go.Proofs.YthimfpkkdhpceaaGreatDoor.As
abbrev ChkY : List CTy := [.int .u32, .int .u32, .int .u32, .int .i64, .int .i64, .int .i64, .slice]
abbrev ChkC := Int × Int × Int × Int × Int × Int × (Option Addr × Nat × Nat)
def chkC (c : Chk) (da : Option Addr) (dc : Nat) : ChkC := (c.num, c.ses, c.seq, c.z, c.p, c.b, (da, c.dir.length, dc))
theorem ldChk {h : Heap} {b : Nat} {T : TypeId} {c : Chk} {da : Option Addr} {dc : Nat} (bb : Blk h b (chkA c da dc) T) {F : ChkC → Prop} (hF : F (chkC c da dc)) : ldAggW ChkY ⟨b, 0, none⟩ F h :=
  ldAgg_blk (chkC c da dc) bb ⟨rfl, rfl, rfl, rfl, rfl, rfl, rfl, trivial⟩ hF
theorem new_taken {h h1 h2 : Heap} (n : New h h1) (t : Taken h.size h1 h2) : New h h2 := ⟨by rw [t.size]; exact n.size, fun b hb => (Tk_low t hb).trans (n.same b hb)⟩
theorem blocks_no (c : Chk) (da : Option Addr) (dc : Nat) (h : Heap) (hr : rightC c = false) :
    CallsH Tryz.prog 32 [chkV c da dc] h fun v h' => v = .tuple #[.slice none 0 0, errV 1] ∧ New h h' := by
  refine fun_ok Geo.hm' Tryz.func32 (by kernel_rfl) (F32_eq _ _ _ _ _ _ _ _ _ _ h) ?_
  unfold F32
  refine new_of fun h1 b1 n1 s1 => ldChk b1 (call_of (right_ok c da dc h1) ?_)
  rintro v h2 ⟨rfl, n2⟩
  exact ⟨rightC c, rfl, br_t (by rw [hr]; rfl) fun h3 t3 => ⟨rfl, new_taken (n1.trans n2) t3⟩⟩
end Go.Proofs.YthimfpkkdhpceaaGreatDoor.Ck
/-
  Bytes laid behind a row, which is then an own one.
-/
namespace Go.Proofs.YthimfpkkdhpceaaGreatDoor.Ck
open Go.Pl Go.Proofs.YthimfpkkdhpceaaGreatDoor.W Go.Proofs.YthimfpkkdhpceaaGreatDoor.Byts Go.Proofs.YthimfpkkdhpceaaGreatDoor.Four Go.Proofs.YthimfpkkdhpceaaGreatDoor.Adl Go.Proofs.YthimfpkkdhpceaaGreatDoor.Head Go.Proofs.YthimfpkkdhpceaaGreatDoor.Geo
theorem push_own {h0 h : Heap} {r0 : Option Nat} {n c : Nat} {a : Option Addr} {xs : List Value} {x : Int} (g : Grow h0 r0 h 5 1 a n c xs) (hn : n ≤ 1000000) {F : Option Addr → Nat → Nat → Heap → Prop}
    (hF : ∀ a' c' h', Grow h0 r0 h' 5 1 a' (n + 1) c' (xs ++ [.int .u8 x]) → OwnH h' 0 5 1 a' (n + 1) c' (xs ++ [.int .u8 x]) → F a' (n + 1) c' h') :
    newW (.cells #[.int .u8 x] 5) (fun p h' => apW Tryz.prog #[68, 68] #[.slice a n c, .slice (some p) 1 1] F h') h := by
  refine new_of fun h1 b1 n1 s1 => ?_
  have g1 := g.new n1
  refine ap_row ap8 g1.row [.int .u8 x] (by simp) (fun j u hu => ?_) (fun u hu => by rw [List.mem_singleton.1 hu]; rfl) (by simp only [maxLen]; omega) (by omega) fun a' c' h' r w o => hF a' c' h' (g1.went r w) (o (by omega))
  have hj : j = 0 := by have := (List.getElem?_eq_some_iff.1 hu).1; simp at this; omega
  subst hj
  rw [add_mk, cellH_blk b1]; exact hu
theorem lay_own (a : Option Addr) (c : Nat) (xs : List Int) (n : Int) (h : Heap) (r : RowS h 5 1 a xs.length c (xs.map (Value.int .u8))) (hl : xs.length ≤ 100000) :
    CallsH Tryz.prog 70 [.slice a xs.length c, .int .u32 n] h fun v h' => ∃ a' c', v = .slice a' (xs ++ four n).length c' ∧ Grow h (blkOf a) h' 5 1 a' (xs ++ four n).length c' ((xs ++ four n).map (Value.int .u8)) ∧ OwnH h' 0 5 1 a' (xs ++ four n).length c' ((xs ++ four n).map (Value.int .u8)) := by
  refine fun_ok Geo.hm' Tryz.func70 (by kernel_rfl) (F70_eq _ _ _ _ _ h) ?_
  unfold F70
  refine ⟨fun (s : (Option Addr × Nat × Nat) × Int) h' => ∃ i : Nat, s.2 = i ∧ i ≤ 4 ∧ s.1.2.1 = (xs ++ (four n).take i).length ∧ Grow h (blkOf a) h' 5 1 s.1.1 (xs ++ (four n).take i).length s.1.2.2 ((xs ++ (four n).take i).map (Value.int .u8)) ∧ (0 < i → OwnH h' 0 5 1 s.1.1 (xs ++ (four n).take i).length s.1.2.2 ((xs ++ (four n).take i).map (Value.int .u8))), fun (s : (Option Addr × Nat × Nat) × Int) _ => (4 - s.2).toNat, ⟨0, rfl, by omega, by simp, by simpa using Grow.start r, fun e => by omega⟩, ?_⟩
  rintro ⟨⟨oa, on, oc⟩, s⟩ j h2 ⟨i, hs, hi, hon, g2, w2⟩
  have hs : s = (i : Int) := hs
  have hon : on = (xs ++ (four n).take i).length := hon
  have g2' : Grow h (blkOf a) h2 5 1 oa (xs ++ (four n).take i).length oc ((xs ++ (four n).take i).map (Value.int .u8)) := g2
  subst hs; subst hon
  refine br_of (fun hlt => ?_) (fun hlt => ?_)
  · have hlt : (i : Int) < 4 := of_decide_eq_true hlt
    have h8 : IntKind.wrap .i64 ((8 : Int) * (i : Int)) = 8 * (i : Int) := wr64 (by omega) (by omega)
    have ez : IntKind.wrap .i64 ((i : Int) + 1) = ((i + 1 : Nat) : Int) := (by first | (rw [wr64 (by omega) (by omega)]; omega) | (simp only [IntKind.wrap_i64]; omega))
    simp only [h8]
    refine ck_t (decide_eq_true (by omega)) ?_
    rw [shr_byte n i (by omega) rfl]
    have hL : (xs ++ (four n).take i).length ≤ 1000000 := by rw [List.length_append, List.length_take]; omega
    refine push_own g2' hL fun a' c' h3 g3 w3 => ?_
    have et : xs ++ (four n).take (i + 1) = xs ++ (four n).take i ++ [byteAt n i] := by
      rw [List.take_add_one, four_get n (by omega), List.append_assoc]; rfl
    have el : (xs ++ (four n).take i).length + 1 = (xs ++ (four n).take (i + 1)).length := by rw [et]; simp; omega
    have em : (xs ++ (four n).take i).map (Value.int .u8) ++ [.int .u8 (byteAt n i)] = (xs ++ (four n).take (i + 1)).map (Value.int .u8) := by rw [et]; simp
    rw [el, em] at g3 w3
    simp only [ez, el]
    exact ⟨⟨i + 1, rfl, by omega, rfl, g3, fun _ => w3⟩, (by first | omega | (dsimp only; omega) | (simp only []; omega))⟩
  · have hlt : ¬ (i : Int) < 4 := of_decide_eq_false hlt
    have : i = 4 := by omega
    subst this
    have e : (four n).take 4 = four n := rfl
    have w2 := w2 (by omega)
    rw [e] at g2' w2 ⊢
    exact ⟨oa, oc, rfl, g2', w2⟩
end Go.Proofs.YthimfpkkdhpceaaGreatDoor.Ck
/-
  ckpt.Blocks where the checkpoint may be.
-/
namespace Go.Proofs.YthimfpkkdhpceaaGreatDoor.Ck
open Go.Pl Go.Proofs.YthimfpkkdhpceaaGreatDoor.W Go.Proofs.YthimfpkkdhpceaaGreatDoor.Byts Go.Proofs.YthimfpkkdhpceaaGreatDoor.Four Go.Proofs.YthimfpkkdhpceaaGreatDoor.Adl Go.Proofs.YthimfpkkdhpceaaGreatDoor.Head Go.Proofs.YthimfpkkdhpceaaGreatDoor.Geo Go.Proofs.YthimfpkkdhpceaaGreatDoor.Rng Go.Proofs.YthimfpkkdhpceaaGreatDoor.As
theorem own_up {h : Heap} {base base' n c size : Nat} {e : TypeId} {a : Option Addr} {xs : List Value} (o : OwnH h base e size a n c xs) (hb : ∀ g, blkOf a = some g → base' ≤ g) : OwnH h base' e size a n c xs := by
  refine ⟨o.1, ?_⟩
  rcases o.2 with h1 | ⟨g, cap, cur, e1, _, hr⟩
  · exact .inl h1
  · injection e1 with e1 e2 e3
    subst e1; subst e3
    exact .inr ⟨g, c, cur, rfl, hb g rfl, hr⟩
/-- A row that grew, above a base. -/
theorem grow_up {h0 h : Heap} {r0 : Option Nat} {base n c size : Nat} {e : TypeId} {a : Option Addr} {xs : List Value} (g : Grow h0 r0 h e size a n c xs) (o : OwnH h 0 e size a n c xs) (h1 : base ≤ h0.size) (h2 : ∀ b, r0 = some b → base ≤ b) : OwnH h base e size a n c xs := own_up o fun b hb => by
  rcases g.at_ with e1 | ⟨b', e1, h3, _⟩
  · exact h2 b (by rw [← e1]; exact hb)
  · rw [hb] at e1; injection e1 with e1; omega
theorem own_sl {h : Heap} {base c : Nat} {a : Option Addr} {xs : List Int} (o : OwnH h base 5 1 a xs.length c (xs.map (Value.int .u8))) (hb : Byt xs) : Sl8 h a c xs :=
  have r : RowS h 5 1 a xs.length c (xs.map (Value.int .u8)) := .inl (o.low (Nat.zero_le _))
  ⟨r.ar, r.le, r.capMax, fun e => by subst e; exact r.none0.2.1, hb⟩
theorem fours_one (x : Int) : fours [x] = four x := by simp [fours]
/-- How a checkpoint's blocks lie: a row of parts of one row of bytes, both new since h0. -/
def Lies (h0 h : Heap) (la : Option Addr) (m lc : Nat) (B : List Int) : Prop :=
  ∃ ba bc, OwnH h h0.size 68 1 la m lc (partV ba m) ∧ OwnH h h0.size 5 1 ba B.length bc (B.map (Value.int .u8)) ∧ B.length = 16 * m ∧ Byt B ∧ m ≤ 1000
theorem Lies.new {h0 h h' : Heap} {la : Option Addr} {m lc : Nat} {B : List Int} (l : Lies h0 h la m lc B) (n : New h h') : Lies h0 h' la m lc B := by
  obtain ⟨ba, bc, o1, o2, r⟩ := l
  exact ⟨ba, bc, o1.grow n, o2.grow n, r⟩
theorem Lies.low {h0 h1 h : Heap} {la : Option Addr} {m lc : Nat} {B : List Int} (l : Lies h1 h la m lc B) (n : New h0 h1) : Lies h0 h la m lc B := by
  obtain ⟨ba, bc, o1, o2, r⟩ := l
  exact ⟨ba, bc, o1.low n.size, o2.low n.size, r⟩
theorem chunks_get {n i : Nat} {xs : List Int} (hi : i < n) : (chunks n xs)[i]? = some ((xs.drop (16 * i)).take 16) := by
  unfold chunks
  rw [List.getElem?_map, List.getElem?_range hi]; rfl
theorem Lies.rb {h0 h : Heap} {la : Option Addr} {m lc : Nat} {B : List Int} (l : Lies h0 h la m lc B) : RB h la (chunks m B) := by
  obtain ⟨ba, bc, o1, o2, hl, hB, hm⟩ := l
  intro i bs hi
  have hlt : i < m := by
    have := (List.getElem?_eq_some_iff.1 hi).1
    rw [chunks_len] at this; exact this
  rw [chunks_get hlt] at hi
  injection hi with hi
  have hp : (partV ba m)[i]? = some (.slice (sliceBase ba (16 * i) (16 * i + 16) 1) 16 16) := by
    unfold partV; rw [List.getElem?_map, List.getElem?_range hlt]; rfl
  obtain ⟨g, e1, _, hc⟩ := o1.cell hp
  have s := sl_chunk (own_sl o2 hB) (i := i) (by omega)
  rw [hi] at s
  have hbl : bs.length = 16 := by rw [← hi, List.length_take, List.length_drop]; omega
  refine ⟨g, 0, _, 16, e1, (o1.blk_ge g (by rw [e1]; rfl)).2, ?_, s⟩
  rw [Nat.zero_add, hbl]; exact hc
theorem blocks_yes (c : Chk) (da : Option Addr) (dc : Nat) (h : Heap) (hr : rightC c = true) (hd : Ar .u32 h da c.dir) :
    CallsH Tryz.prog 32 [chkV c da dc] h fun v h' => ∃ la lc, v = .tuple #[.slice la (manyN c.b) lc, .nilIface] ∧ Lies h h' la (manyN c.b) lc (bytesC c) ∧ New h h' := by
  obtain ⟨_, hz, hp, hb, hdl⟩ := right_c hr
  have ht : tabN c.b ≤ 16 ∧ 1 ≤ tabN c.b := by unfold tabN; omega
  have hm : manyN c.b ≤ 100 := by unfold manyN lenN; omega
  have hnl : (numsC c).length = 6 + tabN c.b := by unfold numsC; simp; omega
  refine fun_ok Geo.hm' Tryz.func32 (by kernel_rfl) (F32_eq _ _ _ _ _ _ _ _ _ _ h) ?_
  unfold F32
  refine new_of fun h1 b1 n1 s1 => ldChk b1 (call_of (right_ok c da dc h1) ?_)
  rintro v h2 ⟨rfl, n2⟩
  refine ⟨rightC c, rfl, br_f (by rw [hr]; rfl) ?_⟩
  refine new_of fun h3 b3 n3 s3 => ldChk ((b1.new n2).new n3) (call_of (all_ok c da dc h3) ?_)
  rintro v h4 ⟨rfl, b4, n4, s4⟩
  refine ⟨_, rfl, ?_⟩
  have n03 := (n1.trans n2).trans n3
  have n04 := n03.trans n4
  have hB1 : h.size + 1 ≤ h2.size := by rw [← s1]; exact n2.size
  have B0 := ((b1.new n2).new n3).new n4
  have B3 := b3.new n4
  have zS : zeroC Tryz.prog 68 = #[.slice none 0 0] := by kernel_rfl
  rw [zS] at B3
  refine range_nums (cap := h3.size) (dc := dc) (da := da) c hr (fun hq l pre h5 => JL h2.size 68 5 1 (fun p : List Int => (fours p).length) (fun p => (fours p).map (Value.int .u8)) hq l pre h5 ∧ New h4 hq ∧ h4.size ≤ l)
    (fun hq l nq h5 h6 => ⟨⟨Nat.le_refl _, fun _ _ _ _ => rfl, ⟨none, 0, B3.new nq, OwnH.nil _ _ _ _⟩, by omega, h6⟩, nq, h5⟩)
    (fun hq l pre h5 h6 j o => ⟨j.1.only o, j.2⟩) (fun hq l pre h5 j => ⟨j.1.sizes, fun b hb1 hb2 hb3 => j.1.same b hb2 (by omega) hb3⟩) b4 (hd.new n04) ?_ ?_
  · rintro hq l o Y pre x post h5 hsp ⟨j, nq, hl⟩ hend
    obtain ⟨a, lc, hb5, ow⟩ := j.var
    have hpl : pre.length < 6 + tabN c.b := by rw [← hnl, hsp]; simp
    have hfl : (fours pre).length ≤ 100000 := by rw [fours_len]; omega
    refine ld_of (c := .slice) (a, (fours pre).length, lc) (by rw [cellH_blk hb5]; rfl) (call_of (lay_own a lc (fours pre) x h5 (.inl (ow.low (Nat.zero_le _))) hfl) ?_)
    rintro v h6 ⟨a', c', rfl, g6, o6⟩
    refine ⟨(a', (fours pre ++ four x).length, c'), rfl, ?_⟩
    have o6' := grow_up g6 o6 j.sizes fun b hb => (ow.blk_ge b hb).1
    have e : fours (pre ++ [x]) = fours pre ++ four x := by rw [fours_app, fours_one]
    refine j.grown (pre' := pre ++ [x]) hb5 ow g6.upd (by rw [e]) (by rw [e]; exact o6') fun h7 j7 => hend h7 ⟨j7, nq, hl⟩
  · intro hq l o h5 hE
    refine .inl (hE _ fun h6 ⟨j, nq, hl⟩ => ?_)
    obtain ⟨a, lc, hb6, ow⟩ := j.var
    have hq4 := nq.size
    have hqs := j.sizes
    have hs3 := n3.size
    have hs4 := n4.size
    have n06 : New h h6 := ⟨by have := n04.size; omega, fun b hb => by rw [j.same b (by have := n04.size; omega) (by omega) (by have := n04.size; omega), nq.same b (by have := n04.size; omega), n04.same b hb]⟩
    have B06 : Blk h6 h.size (chkA c da dc) 40 := (j.same h.size (by omega) (by omega) (by omega)).trans (B0.new nq)
    have hl0 : (fours (numsC c)).length ≤ 1000 := by rw [fours_len, hnl]; omega
    refine ld_of (c := .slice) (a, (fours (numsC c)).length, lc) (by rw [cellH_blk hb6]; rfl) (ld_of (c := .slice) (a, (fours (numsC c)).length, lc) (by rw [cellH_blk hb6]; rfl) ?_)
    have sl6 := own_sl ow (fours_byt _)
    refine call_of (Sum.of_ok a lc (fours (numsC c)) h6 sl6.le sl6.nil (fours_byt _) sl6.ar) ?_
    rintro v h7 ⟨rfl, n7⟩
    have hb7 := hb6.new n7
    have ow7 := ow.grow n7
    refine ⟨sumL (fours (numsC c)), rfl, ⟨by rw [cellH_blk hb7]; rfl, call_of (lay_own a lc (fours (numsC c)) _ h7 (.inl (ow7.low (Nat.zero_le _))) (by omega)) ?_⟩⟩
    rintro v h8 ⟨a8, c8, rfl, g8, o8⟩
    have hs7 := n7.size
    have o8 := grow_up (base := hq.size) g8 o8 (by omega) fun b hb => (ow7.blk_ge b hb).1
    have ub : ∀ b, b < hq.size → h8[b]? = h7[b]? := fun b hb => g8.upd.same b (by omega) fun e => by have := (ow7.blk_ge b e.symm).1; omega
    have hb8 : Blk h8 h2.size #[.slice a (fours (numsC c)).length lc] 68 := (ub h2.size (by omega)).trans hb7
    have n08 : New h h8 := g8.upd.grow (n06.trans n7) fun b hb => by have := (ow7.blk_ge b hb).1; have := n04.size; omega
    have B08 : Blk h8 h.size (chkA c da dc) 40 := (ub h.size (by omega)).trans (B06.new n7)
    have hfu : fours (numsC c) ++ four (sumL (fours (numsC c))) = fullC c := rfl
    rw [hfu] at o8 ⊢
    refine ⟨(a8, (fullC c).length, c8), rfl, st_blk hb8 (by simp) fun h9 b9 o9 => ?_⟩
    have n09 : New h h9 := ⟨by rw [o9.size]; exact n08.size, fun b hb => by rw [o9.same b (by omega), n08.same b hb]⟩
    have B09 := B08.only o9 (by omega)
    have ow9 : OwnH h9 hq.size 5 1 a8 (fullC c).length c8 ((fullC c).map (Value.int .u8)) := o8.keep fun g _ hg _ _ => o9.same g (by omega)
    have hs9 : hq.size ≤ h9.size := by rw [o9.size]; have := g8.upd.size; omega
    have b9' : Blk h9 h2.size #[.slice a8 (fullC c).length c8] 68 := b9
    refine ld_of (c := .slice) (a8, (fullC c).length, c8) (by rw [cellH_blk b9']; rfl) (ld_of (c := .int .i64) c.b (by rw [add_mk, add_mk, cellH_blk B09]; rfl) (ld_of (c := .slice) (a8, (fullC c).length, c8) (by rw [cellH_blk b9']; rfl) (call_of (many_ok c.b h9 hb) ?_)))
    rintro v h' ⟨rfl, hh⟩; subst h'
    refine ⟨(manyN c.b : Int), rfl, ⟨by rw [cellH_blk b9']; rfl, ⟨by rw [cellH_blk b9']; rfl, ?_⟩⟩⟩
    have hful : (fullC c).length ≤ manyN c.b * 16 := by rw [full_len, hdl]; unfold manyN lenN; omega
    have e1 : IntKind.wrap .i64 (IntKind.wrap .i64 ((manyN c.b : Int) * 16) - (((fullC c).length : Nat) : Int)) = ((manyN c.b * 16 - (fullC c).length : Nat) : Int) := by
      rw [wr64 (n := (manyN c.b : Int) * 16) (by omega) (by omega), wr64 (by omega) (by omega)]; omega
    rw [e1]
    refine ap_zeros (zv := .int .u8 0) ap8' intI zero8i rfl rfl ow9 (by simp only [maxLen]; omega) (by omega) hs9 fun a10 c10 h10 o10 u10 => ?_
    have ub : ∀ b, b < hq.size → h10[b]? = h9[b]? := fun b hb => u10.same b (by omega) fun e => by have := (ow9.blk_ge b e.symm).1; omega
    have b10 : Blk h10 h2.size #[.slice a8 (fullC c).length c8] 68 := (ub h2.size (by omega)).trans b9'
    have n010 : New h h10 := u10.grow n09 fun b hb => by have := (ow9.blk_ge b hb).1; have := n04.size; omega
    have eb : (fullC c).map (Value.int .u8) ++ List.replicate (manyN c.b * 16 - (fullC c).length) (Value.int .u8 0) = (bytesC c).map (Value.int .u8) := by unfold bytesC; rw [List.map_append, List.map_replicate]
    have el : (fullC c).length + (manyN c.b * 16 - (fullC c).length) = (bytesC c).length := by unfold bytesC; rw [List.length_append, List.length_replicate]
    rw [eb, el] at o10
    rw [el]
    refine ⟨by rw [cellH_blk b10]; rfl, st_blk b10 (by simp) fun h11 b11 o11 => ?_⟩
    have b11' : Blk h11 h2.size #[.slice a10 (bytesC c).length c10] 68 := b11
    have n011 : New h h11 := ⟨by rw [o11.size]; exact n010.size, fun b hb => by rw [o11.same b (by omega), n010.same b hb]⟩
    have o11' : OwnH h11 hq.size 5 1 a10 (bytesC c).length c10 ((bytesC c).map (Value.int .u8)) := o10.keep fun g _ hg _ _ => o11.same g (by omega)
    refine ld_of (c := .slice) (a10, (bytesC c).length, c10) (by rw [cellH_blk b11']; rfl) (call_of (chunk_ok a10 (bytesC c).length c10 h11) ?_)
    rintro v h12 ⟨rfl, k0, k1, n12, s12⟩
    refine ⟨_, rfl, ?_⟩
    have hbl := bytes_len hr
    have o12 := o11'.grow n12
    refine call_of (collect_ok hbl (by omega) h12 k0 k1 (own_sl o12 (bytes_byt c))) ?_
    rintro v h13 ⟨la, lc2, rfl, o13, n13⟩
    have n013 := (n011.trans n12).trans n13
    refine ⟨(la, manyN c.b, lc2), rfl, fun h14 t14 => ⟨la, lc2, rfl, ⟨a10, c10, ?_, ?_, hbl, bytes_byt c, by omega⟩, new_taken n013 t14⟩⟩
    · exact OwnH.low (base := h12.size) (o13.keep fun _ _ _ hg _ => Tk_blk t14 hg) (n011.trans n12).size
    · exact OwnH.low (base := hq.size) ((o12.grow n13).keep fun _ _ _ hg _ => Tk_blk t14 hg) (by have := n04.size; omega)
end Go.Proofs.YthimfpkkdhpceaaGreatDoor.Ck
/-
  ckpt.Read.
-/
namespace Go.Proofs.YthimfpkkdhpceaaGreatDoor.Ck
open Go.Pl Go.Proofs.YthimfpkkdhpceaaGreatDoor.W Go.Proofs.YthimfpkkdhpceaaGreatDoor.Byts Go.Proofs.YthimfpkkdhpceaaGreatDoor.Four Go.Proofs.YthimfpkkdhpceaaGreatDoor.Adl Go.Proofs.YthimfpkkdhpceaaGreatDoor.Head Go.Proofs.YthimfpkkdhpceaaGreatDoor.Geo Go.Proofs.YthimfpkkdhpceaaGreatDoor.Rng Go.Proofs.YthimfpkkdhpceaaGreatDoor.As
theorem zeroK : zeroC Tryz.prog 40 = chkA ck0 none 0 := by kernel_rfl
def outC (x : ChkC) (e : Value) : Value := .tuple #[.agg #[.int .u32 x.1, .int .u32 x.2.1, .int .u32 x.2.2.1, .int .i64 x.2.2.2.1, .int .i64 x.2.2.2.2.1, .int .i64 x.2.2.2.2.2.1, .slice x.2.2.2.2.2.2.1 x.2.2.2.2.2.2.2.1 x.2.2.2.2.2.2.2.2], e]
/-- A checkpoint stored into a variable, and answered. -/
theorem put_out {h1 : Heap} {b : Nat} {arr : Array Value} {T : TypeId} {c : Chk} {da : Option Addr} {dc : Nat} {K : Value → Heap → Prop} {e : Value} (bb : Blk h1 b arr T) (hs : arr.size = 7) (hK : ∀ h', Only b h1 h' → K (.tuple #[chkV c da dc, e]) h') :
    stLW ⟨b, 0, none⟩ [.int .u32 c.num, .int .u32 c.ses, .int .u32 c.seq, .int .i64 c.z, .int .i64 c.p, .int .i64 c.b, .slice da c.dir.length dc] (fun h4 => ldAggW ChkY ⟨b, 0, none⟩ (fun (x5 : ChkC) => K (outC x5 e) h4) h4) h1 := by
  refine stL_blk bb (by rw [hs]; exact Nat.le_refl 7) fun h2 b2 o2 => ?_
  rw [setsA_all (by rw [hs]; rfl)] at b2
  exact ldChk (c := c) (da := da) (dc := dc) b2 (hK h2 o2)
def chkI (b : List Int) (i : Nat) : Chk := ⟨wordAt b 0, wordAt b 4, wordAt b 8, wordAt b 12, wordAt b 16, wordAt b 20, (List.range i).map fun i => wordAt b (4 * (6 + i))⟩
theorem chkI_len (b : List Int) (i : Nat) : (chkI b i).dir.length = i := by simp [chkI]
theorem chkI_dir (b : List Int) (i : Nat) : (chkI b (i + 1)).dir = (chkI b i).dir ++ [wordAt b (4 * (6 + i))] := by unfold chkI; simp only [List.range_succ, List.map_append]; rfl
theorem cell6 (B : List Int) (i : Nat) (da : Option Addr) (dc : Nat) : (chkA (chkI B i) da dc)[0 + 6]? = some (.slice da i dc) := by
  have e : (chkA (chkI B i) da dc)[0 + 6]? = some (.slice da (chkI B i).dir.length dc) := rfl
  rw [chkI_len] at e; exact e
theorem RB.byt {h : Heap} {a : Option Addr} {l : List (List Int)} (r : RB h a l) : ∀ b ∈ l, Byt b := fun b hb => by
  obtain ⟨i, hi⟩ := List.getElem?_of_mem hb
  obtain ⟨_, _, _, _, _, _, _, s⟩ := r i b hi
  exact s.byt
theorem readC_3 {l : List (List Int)} (h : l.length < 2 ∨ l.any (fun b => decide (b.length ≠ 16)) = true) : readC l = (ck0, 3) := by unfold readC; rw [if_pos h]
def ReadP (l : List (List Int)) (h : Heap) (v : Value) (h' : Heap) : Prop := ∃ da dc, v = .tuple #[chkV (readC l).1 da dc, errV (readC l).2] ∧ OwnH h' h.size 35 1 da (readC l).1.dir.length dc ((readC l).1.dir.map (Value.int .u32)) ∧ New h h'
theorem read_ok (a : Option Addr) (c : Nat) (l : List (List Int)) (h : Heap) (r : RB h a l) (hl : l.length ≤ 1000) :
    CallsH Tryz.prog 54 [.slice a l.length c] h (ReadP l h) := by
  refine fun_ok Geo.hm' Tryz.func54 (by kernel_rfl) (F54_eq _ _ _ _ h) ?_
  unfold F54
  refine new_of fun h1 b1 n1 s1 => ?_
  rw [zeroK] at b1
  have err : ∀ (hx : Heap) (e : Int), e ≠ 0 → readC l = (ck0, e) → New h1 hx → ∀ h', Only h.size hx h' → ReadP l h (Value.tuple #[chkV ck0 none 0, .iface 31 (.int .i64 e)]) h' := by
    intro hx e he hr n h' o
    unfold ReadP
    rw [hr]
    refine ⟨none, 0, by rw [errV_ne he], OwnH.nil _ _ _ _, ⟨?_, fun b hb => ?_⟩⟩
    · rw [o.size]; exact Nat.le_trans n1.size n.size
    · rw [o.same b (by omega), n.same b (by omega), n1.same b hb]
  refine cut_q (ts := []) (fun _ h' => h' = h1 ∧ 2 ≤ l.length ∧ l.any (fun b => decide (b.length ≠ 16)) = false) ?_ ?_
  rotate_left
  · intro K hK
    refine br_of (fun hlt => ?_) fun hlt => call_of (has16_ok a c l h1 (r.new n1) (by omega)) ?_
    · have hlt : (l.length : Int) < 2 := of_decide_eq_true hlt
      exact put_out (K := ReadP l h) (c := ck0) (da := none) (dc := 0) b1 rfl (err h1 3 (by decide) (readC_3 (.inl (by omega))) (New.refl _))
    · have hlt : ¬ (l.length : Int) < 2 := of_decide_eq_false hlt
      rintro v h' ⟨rfl, hh⟩; subst h'
      refine ⟨_, rfl, br_of (fun hb => ?_) fun hb => hK () _ ⟨rfl, by omega, hb⟩⟩
      exact put_out (K := ReadP l h) (c := ck0) (da := none) (dc := 0) b1 rfl (err h1 3 (by decide) (readC_3 (.inr hb)) (New.refl _))
  rintro _ h' ⟨hh, h2l, h16⟩ _; subst h'
  have h16' : ∀ b ∈ l, b.length = 16 := fun b hb => Classical.not_not.1 fun hne => by
    have : l.any (fun b => decide (b.length ≠ 16)) = true := List.any_eq_true.2 ⟨b, hb, decide_eq_true hne⟩
    rw [h16] at this; cases this
  have hfl := flat_len l h16'
  have hByt := flat_byt r.byt
  have hrd : readC l = if rightB (wordAt l.flatten 12) (wordAt l.flatten 16) (wordAt l.flatten 20) = false then (ck0, 2)
      else if l.length ≠ manyN (wordAt l.flatten 20) then (ck0, 3)
      else if sumL (l.flatten.take (lenN (wordAt l.flatten 20))) ≠ wordAt l.flatten (lenN (wordAt l.flatten 20)) then (ck0, 4)
      else if (l.flatten.drop (lenN (wordAt l.flatten 20) + 4)).any (fun x => decide (x ≠ 0)) = true then (ck0, 2)
      else (chkOf l.flatten, 0) := by
    conv => lhs; unfold readC
    rw [if_neg (by rw [h16]; rintro (h | h); omega; cases h)]
  refine call_of (concat8_ok a c l h1 (r.new n1) hl (by omega) fun b hb e => by have := h16' b hb; rw [e] at this; cases this) ?_
  generalize hBB : l.flatten = B at *
  rintro v h2 ⟨a2, c2, rfl, o2, n2⟩
  refine ⟨(a2, B.length, c2), rfl, ?_⟩
  have s2 := own_sl o2 hByt
  have num : ∀ (i : Nat) (hi : 4 * i + 4 ≤ B.length) (hx : Heap), New h2 hx → CallsH Tryz.prog 97 [.slice a2 B.length c2, .int .i64 (i : Int)] hx fun v h' => v = .int .u32 (wordAt B (4 * i)) ∧ h' = hx := fun i hi hx n => number_ok a2 c2 B i B.length hx (s2.new n) hi (by omega)
  have hB32 : 32 ≤ B.length := by omega
  refine call_of (num 0 (by omega) h2 (New.refl _)) ?_
  rintro v h' ⟨rfl, hh⟩; subst h'
  refine ⟨wordAt B 0, rfl, call_of (num 1 (by omega) h2 (New.refl _)) ?_⟩
  rintro v h' ⟨rfl, hh⟩; subst h'
  refine ⟨wordAt B 4, rfl, call_of (num 2 (by omega) h2 (New.refl _)) ?_⟩
  rintro v h' ⟨rfl, hh⟩; subst h'
  refine ⟨wordAt B 8, rfl, call_of (num 3 (by omega) h2 (New.refl _)) ?_⟩
  rintro v h' ⟨rfl, hh⟩; subst h'
  refine ⟨wordAt B 12, rfl, call_of (num 4 (by omega) h2 (New.refl _)) ?_⟩
  rintro v h' ⟨rfl, hh⟩; subst h'
  refine ⟨wordAt B 16, rfl, call_of (num 5 (by omega) h2 (New.refl _)) ?_⟩
  rintro v h' ⟨rfl, hh⟩; subst h'
  refine ⟨wordAt B 20, rfl, ?_⟩
  have wr : ∀ i, IntKind.wrap .i64 (wordAt B i) = wordAt B i := fun i => by have := wordAt_range hByt i; exact wr64 (by omega) (by omega)
  rw [wr, wr, wr]
  have b1' := b1.new n2
  refine new_stL (by rw [zeroK]; rfl) fun h3 b3 n3 s3 => ?_
  have b3 : Blk h3 h2.size (chkA (chkI B 0) none 0) 40 := b3
  have b13 := b1'.new n3
  refine ldAgg_add (o := 0) (wordAt B 12, wordAt B 16, wordAt B 20) b3 ⟨rfl, rfl, rfl, trivial⟩ (call_of (Geo.right_ok (wordAt B 12) (wordAt B 16) (wordAt B 20) h3) ?_)
  rintro v h4 ⟨rfl, n4⟩
  have n14 := (n2.trans n3).trans n4
  have b14 := b13.new n4
  have b4 := b3.new n4
  refine ⟨_, rfl, br_of (fun hr => ?_) fun hr => ?_⟩
  · have hr : rightB (wordAt B 12) (wordAt B 16) (wordAt B 20) = false := by simpa using hr
    exact put_out (K := ReadP l h) (c := ck0) (da := none) (dc := 0) b14 rfl (err h4 2 (by decide) (by rw [hrd, if_pos hr]) n14)
  have hr : rightB (wordAt B 12) (wordAt B 16) (wordAt B 20) = true := by simpa using hr
  rw [if_neg (by rw [hr]; simp)] at hrd
  obtain ⟨_, _, hb1, hb2⟩ := right_facts hr
  refine ld_of (c := .int .i64) (wordAt B 20) (by rw [add_mk, add_mk, cellH_blk b4]; rfl) (call_of (many_ok (wordAt B 20) h4 ⟨hb1, hb2⟩) ?_)
  rintro v h' ⟨rfl, hh⟩; subst h'
  refine ⟨(manyN (wordAt B 20) : Int), rfl, br_of (fun hm => ?_) fun hm => ?_⟩
  · have hm : l.length ≠ manyN (wordAt B 20) := fun e => by rw [e] at hm; simp at hm
    exact put_out (K := ReadP l h) (c := ck0) (da := none) (dc := 0) b14 rfl (err h4 3 (by decide) (by rw [hrd, if_pos hm]) n14)
  have hm : l.length = manyN (wordAt B 20) := by simp at hm; omega
  rw [if_neg (fun h => h hm)] at hrd
  have hlN : lenN (wordAt B 20) + 4 ≤ B.length := by rw [hfl, hm]; unfold manyN; omega
  have hlt : lenN (wordAt B 20) = 4 * (6 + tabN (wordAt B 20)) := by unfold lenN; omega
  refine ld_of (c := .int .i64) (wordAt B 20) (by rw [add_mk, add_mk, cellH_blk b4]; rfl) (call_of (length_ok (wordAt B 20) h4 ⟨hb1, hb2⟩) ?_)
  rintro v h' ⟨rfl, hh⟩; subst h'
  refine ⟨(lenN (wordAt B 20) : Int), rfl, ?_⟩
  have s4 := (s2.new n3).new n4
  have hc2 := s4.le
  refine s4.sl 0 (lenN (wordAt B 20)) c2 rfl rfl rfl (by omega) (by omega) (by omega) (Nat.le_refl _) fun bb d sb => ?_
  rw [List.drop_zero, Nat.sub_zero] at sb
  have hsl : (B.take (lenN (wordAt B 20))).length = lenN (wordAt B 20) := by rw [List.length_take]; omega
  have so := Sum.of_ok bb d (B.take (lenN (wordAt B 20))) h4 sb.le sb.nil sb.byt sb.ar
  rw [hsl] at so
  refine call_of so ?_
  rintro v h5 ⟨rfl, n5⟩
  refine ⟨_, rfl, ?_⟩
  have e4 : IntKind.wrap .i64 (Int.tdiv (lenN (wordAt B 20) : Int) 4) = ((6 + tabN (wordAt B 20) : Nat) : Int) := by
    rw [Int.tdiv_eq_ediv_of_nonneg (by omega), wr64 (by omega) (by omega), hlt]; omega
  rw [e4]
  refine call_of (num (6 + tabN (wordAt B 20)) (by omega) h5 ((n3.trans n4).trans n5)) ?_
  rintro v h' ⟨rfl, hh⟩; subst h'
  rw [← hlt]
  have b15 := b14.new n5
  have b5 := b4.new n5
  have n15 := n14.trans n5
  refine ⟨_, rfl, br_of (fun hs => ?_) fun hs => ?_⟩
  · have hs : sumL (B.take (lenN (wordAt B 20))) ≠ wordAt B (lenN (wordAt B 20)) := by simpa using hs
    exact put_out (K := ReadP l h) (c := ck0) (da := none) (dc := 0) b15 rfl (err h5 4 (by decide) (by rw [hrd, if_pos hs]) n15)
  have hs : sumL (B.take (lenN (wordAt B 20))) = wordAt B (lenN (wordAt B 20)) := by simpa using hs
  rw [if_neg (fun h => h hs)] at hrd
  have e5 : IntKind.wrap .i64 ((lenN (wordAt B 20) : Int) + 4) = ((lenN (wordAt B 20) + 4 : Nat) : Int) := by rw [wr64 (by omega) (by omega)]; rfl
  rw [e5]
  have s5 := s4.new n5
  refine s5.sl (lenN (wordAt B 20) + 4) B.length c2 rfl rfl rfl hlN (Nat.le_refl _) hc2 (Nat.le_refl _) fun bb2 d2 sb2 => ?_
  have hdl : ((B.drop (lenN (wordAt B 20) + 4)).take (B.length - (lenN (wordAt B 20) + 4))) = B.drop (lenN (wordAt B 20) + 4) := List.take_of_length_le (by rw [List.length_drop]; omega)
  rw [hdl] at sb2
  have ho := has0_ok bb2 d2 (B.drop (lenN (wordAt B 20) + 4)) h5 sb2.ar (by rw [List.length_drop]; omega)
  rw [List.length_drop] at ho
  refine call_of ho ?_
  rintro v h' ⟨rfl, hh⟩; subst h'
  refine ⟨_, rfl, br_of (fun hz => ?_) fun hz => ?_⟩
  · exact put_out (K := ReadP l h) (c := ck0) (da := none) (dc := 0) b15 rfl (err h5 2 (by decide) (by rw [hrd, if_pos hz]) n15)
  rw [if_neg (by rw [hz]; simp)] at hrd
  refine ld_of (c := .int .i64) (wordAt B 20) (by rw [add_mk, add_mk, cellH_blk b5]; rfl) (call_of (tables_ok (wordAt B 20) h5 (by omega) (by omega)) ?_)
  rintro v h' ⟨rfl, hh⟩; subst h'
  refine ⟨((wordAt B 20 + 3) / 4 : Int), rfl, ?_⟩
  have etab : ((wordAt B 20 + 3) / 4 : Int) = (tabN (wordAt B 20) : Int) := by unfold tabN; omega
  rw [etab]
  have ht : tabN (wordAt B 20) ≤ 16 := by unfold tabN; omega
  have h25 : New h2 h5 := (n3.trans n4).trans n5
  have hs5 := h25.size
  have hb3 := b3.lt
  have hs45 := (n4.trans n5).size
  have hs12 := n2.size
  refine ⟨fun (s : Int) h' => ∃ i : Nat, s = i ∧ i ≤ tabN (wordAt B 20) ∧ Upd h2.size h5 h' ∧ ∃ da dc, Blk h' h2.size (chkA (chkI B i) da dc) 40 ∧ OwnH h' h5.size 35 1 da i dc ((chkI B i).dir.map (Value.int .u32)), fun (s : Int) _ => ((tabN (wordAt B 20) : Int) - s).toNat, ⟨0, rfl, Nat.zero_le _, Upd.refl _ _, none, 0, b5, OwnH.nil _ _ _ _⟩, ?_⟩
  rintro s j h6 ⟨i, rfl, hi, u6, da, dc, b6, o6⟩
  have N6 : New h2 h6 := ⟨Nat.le_trans hs5 u6.size, fun b hb => (u6.same b (by omega) (by omega)).trans (h25.same b hb)⟩
  refine br_of (fun hlt2 => ?_) (fun hlt2 => ?_)
  · have hlt2 : (i : Int) < (tabN (wordAt B 20) : Int) := of_decide_eq_true hlt2
    have e6 : IntKind.wrap .i64 (6 + (i : Int)) = ((6 + i : Nat) : Int) := by rw [wr64 (by omega) (by omega)]; omega
    have ez : IntKind.wrap .i64 ((i : Int) + 1) = ((i + 1 : Nat) : Int) := (by first | (rw [wr64 (by omega) (by omega)]; omega) | (simp only [IntKind.wrap_i64]; omega))
    rw [e6, ez]
    refine ld_of (c := .slice) (da, i, dc) (by rw [add_mk, cellH_blk b6]; exact cell6 B i da dc) (call_of (num (6 + i) (by omega) h6 N6) ?_)
    rintro v h' ⟨rfl, hh⟩; subst h'
    refine ⟨_, rfl, ⟨by rw [add_mk, cellH_blk b6]; exact cell6 B i da dc, ?_⟩⟩
    refine pushA ap32 o6 (by omega) (by decide) u6.size fun a' c' h7 o7 ab7 => ?_
    have b7 := b6.abo ab7 (by omega)
    rw [add_mk]
    refine st_blk b7 (by show 6 < 7; omega) fun h8 b8 o8 => ?_
    have ea : (chkA (chkI B i) da dc).setIfInBounds (0 + 6) (.slice a' (i + 1) c') = chkA (chkI B (i + 1)) a' c' := by
      unfold chkA
      rw [chkI_len B (i + 1)]
      rfl
    rw [ea] at b8
    have u8 : Upd h2.size h5 h8 := ⟨by rw [o8.size]; have := ab7.size; have := u6.size; omega, fun b hb hne => by rw [o8.same b hne, ab7.same b hb (by have := u6.size; omega), u6.same b hb hne]⟩
    refine ⟨⟨i + 1, rfl, by omega, u8, a', c', b8, ?_⟩, (by first | omega | (dsimp only; omega) | (simp only []; omega))⟩
    rw [chkI_dir]
    exact o7.keep fun g _ hg _ _ => o8.same g (by omega)
  · have hlt2 : ¬ (i : Int) < (tabN (wordAt B 20) : Int) := of_decide_eq_false hlt2
    have : i = tabN (wordAt B 20) := by omega
    subst this
    have b16 : Blk h6 h.size (chkA ck0 none 0) 40 := (u6.same h.size (by omega) (by omega)).trans b15
    refine ldChk b6 (put_out (K := ReadP l h) (c := chkI B (tabN (wordAt B 20))) (da := da) (dc := dc) b16 rfl fun h7 o7 => ?_)
    unfold ReadP
    rw [hrd]
    refine ⟨da, dc, rfl, ?_, ⟨?_, fun b hb => ?_⟩⟩
    · show OwnH h7 h.size 35 1 da (chkI B (tabN (wordAt B 20))).dir.length dc ((chkI B (tabN (wordAt B 20))).dir.map (Value.int .u32))
      rw [chkI_len]
      exact OwnH.low (base := h5.size) (o6.keep fun g _ hg _ _ => o7.same g (by omega)) (by omega)
    · rw [o7.size]; have := u6.size; omega
    · rw [o7.same b (by omega), N6.same b (by omega), n2.same b (by omega), n1.same b hb]
end Go.Proofs.YthimfpkkdhpceaaGreatDoor.Ck
/-
  The formulas of package slot. Each formula checked by the kernel. Printed by a program of this repo.
-/
namespace Go.Proofs.YthimfpkkdhpceaaGreatDoor.W
open Go.Pl

-- function 22
set_option maxRecDepth 100000 in
def F22 (d_0 : Addr) (number_1 : Int) (K : Value → Heap → Prop) (h0 : Heap) : Prop := (
  callT Tryz.prog 33 [.pointer (some d_0)] [.sc (.int .i64)] (fun (r1 : Int) h2 =>
  K (.int .i64 (IntKind.wrap .i64 ((IntKind.wrap .i64 (r1 - (2 : Int))) + (IntKind.wrap .i64 (Int.tmod number_1 (2 : Int)))))) h2) h0)
set_option maxRecDepth 100000 in
theorem F22_eq (d_0 : Addr) (number_1 : Int) (K : Value → Heap → Prop) (h0 : Heap) : funWE Tryz.prog 22 (.seq (.leaf) (.seq (.leaf) (.leaf))) [.pointer (some d_0), .int .u32 number_1] K h0 = F22 d_0 number_1 K h0 := by kernel_rfl

-- function 13
set_option maxRecDepth 100000 in
def F13 (d_0 : Addr) (c_1_0 : Int) (c_1_1 : Int) (c_1_2 : Int) (c_1_3 : Int) (c_1_4 : Int) (c_1_5 : Int) (c_1_6 : Option Addr) (c_1_6l c_1_6c : Nat) (K : Value → Heap → Prop) (h0 : Heap) : Prop := (
  newW (.cells #[.int .u32 c_1_0, .int .u32 c_1_1, .int .u32 c_1_2, .int .i64 c_1_3, .int .i64 c_1_4, .int .i64 c_1_5, .slice c_1_6 c_1_6l c_1_6c] 40) (fun a1 h2 =>
  ldAggW [.int .u32, .int .u32, .int .u32, .int .i64, .int .i64, .int .i64, .slice] a1 (fun (x3 : Int × Int × Int × Int × Int × Int × (Option Addr × Nat × Nat)) =>
  callT Tryz.prog 32 [.agg #[.int .u32 x3.1, .int .u32 x3.2.1, .int .u32 x3.2.2.1, .int .i64 x3.2.2.2.1, .int .i64 x3.2.2.2.2.1, .int .i64 x3.2.2.2.2.2.1, .slice x3.2.2.2.2.2.2.1 x3.2.2.2.2.2.2.2.1 x3.2.2.2.2.2.2.2.2]] [.sc .slice, .sc .any] (fun (r4 : (Option Addr × Nat × Nat) × Value) h5 =>
  cutT [] (fun (K6 : Unit → Heap → Prop) h20 =>
  cutT [.sc .bool] (fun (K7 : Bool → Heap → Prop) h14 =>
  ifW r4.2 (br (!(isNilV r4.2))
  (K7 true h14)
  (ldW (.int .i64) (Addr.add (Addr.add a1 3) 0) (fun (x8 : Int) =>
  callT Tryz.prog 33 [.pointer (some d_0)] [.sc (.int .i64)] (fun (r9 : Int) h10 =>
  (cellH h10 (Addr.add (Addr.add a1 3) 0) = some (.int .i64 x8) ∧ br (x8 != r9)
  (K7 true h10)
  (ldW (.int .i64) (Addr.add (Addr.add a1 3) 1) (fun (x11 : Int) =>
  callT Tryz.prog 34 [.pointer (some d_0)] [.sc (.int .i64)] (fun (r12 : Int) h13 =>
  (cellH h13 (Addr.add (Addr.add a1 3) 1) = some (.int .i64 x11) ∧ (cellH h13 (Addr.add (Addr.add a1 3) 0) = some (.int .i64 x8) ∧ K7 (x11 != r12) h13))) h10) h10))) h14) h14))) (fun (s15 : Bool) _ h16 =>
  br s15
  (ldW (.int .u32) (Addr.add a1 0) (fun (x17 : Int) =>
  callT Tryz.prog 35 [.string ((⟨#[99, 104, 101, 99, 107, 112, 111, 105, 110, 116]⟩ : ByteArray)), .int .i64 (IntKind.wrap .i64 x17), .iface 31 (.int .i64 1)] [.sc .any] (fun (r18 : Value) h19 =>
  K (r18) h19) h16) h16)
  (K6 () h16)) h20) (fun (_s21 : Unit) _ h22 =>
  ldW (.int .u32) (Addr.add a1 0) (fun (x23 : Int) =>
  callT Tryz.prog 22 [.pointer (some d_0), .int .u32 x23] [.sc (.int .i64)] (fun (r24 : Int) h25 =>
  callT Tryz.prog 36 [.pointer (some d_0), .int .i64 r24] [.sc .any] (fun (r26 : Value) h27 =>
  ifW r26 (br (!(isNilV r26))
  (ldW (.int .u32) (Addr.add a1 0) (fun (x28 : Int) =>
  callT Tryz.prog 35 [.string ((⟨#[99, 104, 101, 99, 107, 112, 111, 105, 110, 116]⟩ : ByteArray)), .int .i64 (IntKind.wrap .i64 x28), r26] [.sc .any] (fun (r29 : Value) h30 =>
  K (r29) h30) h27) h27)
  (loopT [.sc (.int .i64)] (fun (s32 : Int) _ (K31 : Int → Heap → Prop) h33 =>
  br (decide (s32 < (((r4.1.2.1 : Nat) : Int))))
  (ptrW r4.1.1 (fun a34 =>
  idxW s32 r4.1.2.1 true (ldW .slice (Addr.add a34 (Int.toNat s32 * 1)) (fun (x35 : Option Addr × Nat × Nat) =>
  ldW (.int .u32) (Addr.add a1 1) (fun (x36 : Int) =>
  ldW (.int .u32) (Addr.add a1 0) (fun (x37 : Int) =>
  callT Tryz.prog 37 [.agg #[.int .u8 5, .int .u32 x36, .int .u32 (IntKind.wrap .u32 s32), .int .u32 x37], .slice x35.1 x35.2.1 x35.2.2] [.sc .slice, .sc .any] (fun (r38 : (Option Addr × Nat × Nat) × Value) h39 =>
  cutT [.sc .any] (fun (K40 : Value → Heap → Prop) h43 =>
  ifW r38.2 (br (isNilV r38.2)
  (callT Tryz.prog 38 [.pointer (some d_0), .int .i64 r24, .slice r38.1.1 r38.1.2.1 r38.1.2.2] [.sc (.int .i64), .sc .any] (fun (r41 : Int × Value) h42 =>
  K40 r41.2 h42) h43)
  (K40 r38.2 h43))) (fun (s44 : Value) _ h45 =>
  ifW s44 (br (!(isNilV s44))
  (ldW (.int .u32) (Addr.add a1 0) (fun (x46 : Int) =>
  callT Tryz.prog 35 [.string ((⟨#[99, 104, 101, 99, 107, 112, 111, 105, 110, 116]⟩ : ByteArray)), .int .i64 (IntKind.wrap .i64 x46), s44] [.sc .any] (fun (r47 : Value) h48 =>
  K (r47) h48) h45) h45)
  (K31 (IntKind.wrap .i64 (s32 + (1 : Int))) h45))) h39) h33) h33) h33) h33)))
  (ldW (.int .u32) (Addr.add a1 0) (fun (x49 : Int) =>
  callT Tryz.prog 39 [.pointer (some d_0)] [.sc .any] (fun (r50 : Value) h51 =>
  (cellH h51 (Addr.add a1 0) = some (.int .u32 x49) ∧ callT Tryz.prog 35 [.string ((⟨#[99, 104, 101, 99, 107, 112, 111, 105, 110, 116]⟩ : ByteArray)), .int .i64 (IntKind.wrap .i64 x49), r50] [.sc .any] (fun (r52 : Value) h53 =>
  (cellH h53 (Addr.add a1 0) = some (.int .u32 x49) ∧ K (r52) h53)) h51)) h33) h33)) (0 : Int) h27))) h25) h22) h22) h5) h2) h2) h0)
set_option maxRecDepth 100000 in
theorem F13_eq (d_0 : Addr) (c_1_0 : Int) (c_1_1 : Int) (c_1_2 : Int) (c_1_3 : Int) (c_1_4 : Int) (c_1_5 : Int) (c_1_6 : Option Addr) (c_1_6l c_1_6c : Nat) (K : Value → Heap → Prop) (h0 : Heap) : funWE Tryz.prog 13 (.seq (.leaf) (.seq (.leaf) (.cut [] (.cut [(35, .sc .bool)] (.draw (odp [0, 1, 2, 3, 4, 5, 6, 7, 8, 9, 10, 11, 12, 13, 14, 15, 16, 17] .nil) [200005, 200013]) (.cond (.seq (.leaf) (.leaf)) (.leaf))) (.seq (.leaf) (.seq (.seq (.leaf) (.seq (.leaf) (.cond (.seq (.leaf) (.leaf)) (.leaf)))) (.seq (.seq (.leaf) (.block (.loop [(57, .sc (.int .i64))] (.seq (.leaf) (.seq (.cond (.leaf) (.leaf)) (.seq (.block (.seq (.leaf) (.seq (.leaf) (.cut [(12, .sc .any)] (.seq (.leaf) (.cond (.leaf) (.leaf))) (.seq (.leaf) (.cond (.seq (.leaf) (.leaf)) (.leaf))))))) (.leaf))))))) (.seq (.draw (odp [0, 1, 2, 3, 4, 5, 6] .nil) [200001]) (.leaf)))))))) [.pointer (some d_0), .agg #[.int .u32 c_1_0, .int .u32 c_1_1, .int .u32 c_1_2, .int .i64 c_1_3, .int .i64 c_1_4, .int .i64 c_1_5, .slice c_1_6 c_1_6l c_1_6c]] K h0 = F13 d_0 c_1_0 c_1_1 c_1_2 c_1_3 c_1_4 c_1_5 c_1_6 c_1_6l c_1_6c K h0 := by kernel_rfl

-- function 53
set_option maxRecDepth 100000 in
def F53 (d_0 : Addr) (zone_1 : Int) (K : Value → Heap → Prop) (h0 : Heap) : Prop := (
  newW (.cells #[.pointer (some d_0)] 25) (fun a1 h2 =>
  newW (.cells #[.int .i64 zone_1] 3) (fun a3 h4 =>
  K (.func (.func 92) #[] #[.pointer (some a1), .pointer (some a3)]) h4) h2) h0)
set_option maxRecDepth 100000 in
theorem F53_eq (d_0 : Addr) (zone_1 : Int) (K : Value → Heap → Prop) (h0 : Heap) : funWE Tryz.prog 53 (.seq (.leaf) (.seq (.leaf) (.leaf))) [.pointer (some d_0), .int .i64 zone_1] K h0 = F53 d_0 zone_1 K h0 := by kernel_rfl

-- function 92
set_option maxRecDepth 100000 in
def F92 (yield_0 : Nat) (cap_0 : Addr) (cap_1 : Addr) (K : Value → Heap → Prop) (h0 : Heap) : Prop := (
  ldW .ptr cap_0 (fun (x1 : Option Addr) =>
  ldW (.int .i64) cap_1 (fun (x2 : Int) =>
  callT Tryz.prog 46 [.pointer x1, .int .i64 x2] [.sc (.int .i64)] (fun (r3 : Int) h4 =>
  loopT [.sc (.int .i64)] (fun (s6 : Int) _ (K5 : Int → Heap → Prop) h7 =>
  br (decide (s6 < r3))
  (ldW .ptr cap_0 (fun (x8 : Option Addr) =>
  ldW (.int .i64) cap_1 (fun (x9 : Int) =>
  callT Tryz.prog 50 [.pointer x8, .int .i64 x9, .int .i64 s6] [.sc .slice, .sc .any] (fun (r10 : (Option Addr × Nat × Nat) × Value) h11 =>
  ifW r10.2 (br (!(isNilV r10.2))
  (K (.tuple #[]) h11)
  (callT Tryz.prog 93 [.slice r10.1.1 r10.1.2.1 r10.1.2.2] [.agg [.int .u8, .int .u32, .int .u32, .int .u32], .sc .slice, .sc .any] (fun (r12 : (Int × Int × Int × Int) × (Option Addr × Nat × Nat) × Value) h13 =>
  newW (.cells (zeroC Tryz.prog 90) 90) (fun a14 h15 =>
  stLW a14 [.int .u8 r12.1.1, .int .u32 r12.1.2.1, .int .u32 r12.1.2.2.1, .int .u32 r12.1.2.2.2] (fun h16 =>
  ifW r12.2.2 (br (!(isNilV r12.2.2))
  (K (.tuple #[]) h16)
  (ldAggW [.int .u8, .int .u32, .int .u32, .int .u32] a14 (fun (x17 : Int × Int × Int × Int) =>
  callW Tryz.prog (.sc .bool) (.func (.yield yield_0) #[] #[]) [.agg #[.int .u8 x17.1, .int .u32 x17.2.1, .int .u32 x17.2.2.1, .int .u32 x17.2.2.2], .slice r12.2.1.1 r12.2.1.2.1 r12.2.1.2.2] (fun (x18 : Bool) h19 =>
  br (!x18)
  (K (.tuple #[]) h19)
  (K5 (IntKind.wrap .i64 (s6 + (1 : Int))) h19)) h16) h16))) h15) h13) h11))) h7) h7) h7)
  (K (.tuple #[]) h7)) (0 : Int) h4) h0) h0) h0)
set_option maxRecDepth 100000 in
theorem F92_eq (yield_0 : Nat) (cap_0 : Addr) (cap_1 : Addr) (K : Value → Heap → Prop) (h0 : Heap) : funWE Tryz.prog 92 (.seq (.leaf) (.block (.loop [(12, .sc (.int .i64))] (.seq (.leaf) (.seq (.cond (.leaf) (.leaf)) (.seq (.block (.seq (.leaf) (.seq (.leaf) (.seq (.seq (.leaf) (.cond (.leaf) (.leaf))) (.seq (.leaf) (.seq (.leaf) (.cond (.leaf) (.leaf)))))))) (.leaf))))))) [.func (.yield yield_0) #[] #[], .pointer (some cap_0), .pointer (some cap_1)] K h0 = F92 yield_0 cap_0 cap_1 K h0 := by kernel_rfl

-- function 17
set_option maxRecDepth 100000 in
def F17 (d_0 : Addr) (zone_1 : Int) (K : Value → Heap → Prop) (h0 : Heap) : Prop := (
  newW (.cells (zeroC Tryz.prog 40) 40) (fun a1 h2 =>
  cutT [.sc .any] (fun (K3 : Value → Heap → Prop) h4 =>
  callT Tryz.prog 45 [.pointer (some d_0)] [.sc .bool] (fun (r5 : Bool) h6 =>
  br r5
  (stLW a1 [.int .u32 0, .int .u32 0, .int .u32 0, .int .i64 0, .int .i64 0, .int .i64 0, .slice none 0 0] (fun h7 =>
  (∀ h8, Taken h0.size h7 h8 →
  ldAggW [.int .u32, .int .u32, .int .u32, .int .i64, .int .i64, .int .i64, .slice] a1 (fun (x9 : Int × Int × Int × Int × Int × Int × (Option Addr × Nat × Nat)) =>
  K (.tuple #[.agg #[.int .u32 x9.1, .int .u32 x9.2.1, .int .u32 x9.2.2.1, .int .i64 x9.2.2.2.1, .int .i64 x9.2.2.2.2.1, .int .i64 x9.2.2.2.2.2.1, .slice x9.2.2.2.2.2.2.1 x9.2.2.2.2.2.2.2.1 x9.2.2.2.2.2.2.2.2], .iface 31 (.int .i64 7)]) h8) h8)) h6)
  (callT Tryz.prog 33 [.pointer (some d_0)] [.sc (.int .i64)] (fun (r10 : Int) h11 =>
  br (decide (r10 < (2 : Int)))
  (stLW a1 [.int .u32 0, .int .u32 0, .int .u32 0, .int .i64 0, .int .i64 0, .int .i64 0, .slice none 0 0] (fun h12 =>
  (∀ h13, Taken h0.size h12 h13 →
  ldAggW [.int .u32, .int .u32, .int .u32, .int .i64, .int .i64, .int .i64, .slice] a1 (fun (x14 : Int × Int × Int × Int × Int × Int × (Option Addr × Nat × Nat)) =>
  K (.tuple #[.agg #[.int .u32 x14.1, .int .u32 x14.2.1, .int .u32 x14.2.2.1, .int .i64 x14.2.2.2.1, .int .i64 x14.2.2.2.2.1, .int .i64 x14.2.2.2.2.2.1, .slice x14.2.2.2.2.2.2.1 x14.2.2.2.2.2.2.2.1 x14.2.2.2.2.2.2.2.2], .iface 31 (.int .i64 1)]) h13) h13)) h11)
  (callT Tryz.prog 33 [.pointer (some d_0)] [.sc (.int .i64)] (fun (r15 : Int) h16 =>
  br (decide (zone_1 < (IntKind.wrap .i64 (r15 - (2 : Int)))))
  (stLW a1 [.int .u32 0, .int .u32 0, .int .u32 0, .int .i64 0, .int .i64 0, .int .i64 0, .slice none 0 0] (fun h17 =>
  (∀ h18, Taken h0.size h17 h18 →
  ldAggW [.int .u32, .int .u32, .int .u32, .int .i64, .int .i64, .int .i64, .slice] a1 (fun (x19 : Int × Int × Int × Int × Int × Int × (Option Addr × Nat × Nat)) =>
  K (.tuple #[.agg #[.int .u32 x19.1, .int .u32 x19.2.1, .int .u32 x19.2.2.1, .int .i64 x19.2.2.2.1, .int .i64 x19.2.2.2.2.1, .int .i64 x19.2.2.2.2.2.1, .slice x19.2.2.2.2.2.2.1 x19.2.2.2.2.2.2.2.1 x19.2.2.2.2.2.2.2.2], .iface 31 (.int .i64 1)]) h18) h18)) h16)
  (callT Tryz.prog 33 [.pointer (some d_0)] [.sc (.int .i64)] (fun (r20 : Int) h21 =>
  br (decide (zone_1 ≥ r20))
  (stLW a1 [.int .u32 0, .int .u32 0, .int .u32 0, .int .i64 0, .int .i64 0, .int .i64 0, .slice none 0 0] (fun h22 =>
  (∀ h23, Taken h0.size h22 h23 →
  ldAggW [.int .u32, .int .u32, .int .u32, .int .i64, .int .i64, .int .i64, .slice] a1 (fun (x24 : Int × Int × Int × Int × Int × Int × (Option Addr × Nat × Nat)) =>
  K (.tuple #[.agg #[.int .u32 x24.1, .int .u32 x24.2.1, .int .u32 x24.2.2.1, .int .i64 x24.2.2.2.1, .int .i64 x24.2.2.2.2.1, .int .i64 x24.2.2.2.2.2.1, .slice x24.2.2.2.2.2.2.1 x24.2.2.2.2.2.2.2.1 x24.2.2.2.2.2.2.2.2], .iface 31 (.int .i64 1)]) h23) h23)) h21)
  (K3 (.nilIface : Value) h21)) h16)) h11)) h6)) h4) (fun (s25 : Value) _ h26 =>
  newW (.cells (zeroC Tryz.prog 67) 67) (fun a27 h28 =>
  newW (.cells (zeroC Tryz.prog 90) 90) (fun a29 h30 =>
  cutT [] (fun (K31 : Unit → Heap → Prop) h78 =>
  callT Tryz.prog 53 [.pointer (some d_0), .int .i64 zone_1] [.sc .any] (fun (r32 : Value) h33 =>
  rfW r32 (fun n75 x76 x77 =>
  rangeW Tryz.prog n75 x76 x77 [.agg [.int .u8, .int .u32, .int .u32, .int .u32], .sc .slice] (fun l34 o35 (s36 : (Int × Int × Int × Int) × (Option Addr × Nat × Nat)) Y37 h38 =>
  newW (.cells (zeroC Tryz.prog 90) 90) (fun a42 h43 =>
  stLW a42 [.int .u8 s36.1.1, .int .u32 s36.1.2.1, .int .u32 s36.1.2.2.1, .int .u32 s36.1.2.2.2] (fun h44 =>
  roundIn l34 o35 (fun h40 =>
  cutT [] (fun (K45 : Unit → Heap → Prop) h49 =>
  ldW .slice a27 (fun (x46 : Option Addr × Nat × Nat) =>
  br ((((x46.2.1 : Nat) : Int)) == (0 : Int))
  (ldAggW [.int .u8, .int .u32, .int .u32, .int .u32] a42 (fun (x47 : Int × Int × Int × Int) =>
  stLW a29 [.int .u8 x47.1, .int .u32 x47.2.1, .int .u32 x47.2.2.1, .int .u32 x47.2.2.2] (fun h48 =>
  K45 () h48) h49) h49)
  (K45 () h49)) h49) (fun (_s50 : Unit) _ h51 =>
  ldW (.int .u32) (Addr.add a29 1) (fun (x52 : Int) =>
  ldW .slice a27 (fun (x53 : Option Addr × Nat × Nat) =>
  ldW (.int .u32) (Addr.add a29 3) (fun (x54 : Int) =>
  newW (.cells (zeroC Tryz.prog 90) 90) (fun a55 h56 =>
  stLW a55 [.int .u8 5, .int .u32 x52, .int .u32 (IntKind.wrap .u32 (((x53.2.1 : Nat) : Int))), .int .u32 x54] (fun h57 =>
  ldAggW [.int .u8, .int .u32, .int .u32, .int .u32] a42 (fun (x58 : Int × Int × Int × Int) =>
  ldAggW [.int .u8, .int .u32, .int .u32, .int .u32] a55 (fun (x59 : Int × Int × Int × Int) =>
  eqGen Tryz.prog 90 (.agg #[.int .u8 x58.1, .int .u32 x58.2.1, .int .u32 x58.2.2.1, .int .u32 x58.2.2.2]) (.agg #[.int .u8 x59.1, .int .u32 x59.2.1, .int .u32 x59.2.2.1, .int .u32 x59.2.2.2]) (fun b60 =>
  br (!b60)
  (roundEnd l34 (o35.dn (.exit 1)) (Y37 false) h57)
  (ldW .slice a27 (fun (x61 : Option Addr × Nat × Nat) =>
  newW (.cells #[.slice s36.2.1 s36.2.2.1 s36.2.2.2] 68) (fun a62 h63 =>
  apW Tryz.prog #[67, 67] #[.slice x61.1 x61.2.1 x61.2.2, .slice (some a62) 1 1] (fun b64 n65 c66 h67 =>
  stW a27 (.slice b64 n65 c66) (fun h68 =>
  roundEnd l34 o35.rdy (Y37 true) h68) h67) h63) h57) h57))) h57) h57) h56) h51) h51) h51) h51) h40) h44) h43) h38) (fun l73 o74 h69 =>
  (roundDone l73 o74.rdy (fun h70 =>
  K31 () h70) h69) ∨
  (roundDone l73 (o74.dn .ret) (fun h70 =>
  (∀ h71, Taken h0.size h70 h71 →
  ldAggW [.int .u32, .int .u32, .int .u32, .int .i64, .int .i64, .int .i64, .slice] a1 (fun (x72 : Int × Int × Int × Int × Int × Int × (Option Addr × Nat × Nat)) =>
  K (.tuple #[.agg #[.int .u32 x72.1, .int .u32 x72.2.1, .int .u32 x72.2.2.1, .int .i64 x72.2.2.2.1, .int .i64 x72.2.2.2.2.1, .int .i64 x72.2.2.2.2.2.1, .slice x72.2.2.2.2.2.2.1 x72.2.2.2.2.2.2.2.1 x72.2.2.2.2.2.2.2.2], s25]) h71) h71)) h69) ∨
  (roundDone l73 (o74.dn (.exit 1)) (fun h70 =>
  K31 () h70) h69) ∨ False) h33)) h78) (fun (_s79 : Unit) _ h80 =>
  ldW .slice a27 (fun (x81 : Option Addr × Nat × Nat) =>
  callT Tryz.prog 54 [.slice x81.1 x81.2.1 x81.2.2] [.agg [.int .u32, .int .u32, .int .u32, .int .i64, .int .i64, .int .i64, .slice], .sc .any] (fun (r82 : (Int × Int × Int × Int × Int × Int × (Option Addr × Nat × Nat)) × Value) h83 =>
  newW (.cells (zeroC Tryz.prog 40) 40) (fun a84 h85 =>
  stLW a84 [.int .u32 r82.1.1, .int .u32 r82.1.2.1, .int .u32 r82.1.2.2.1, .int .i64 r82.1.2.2.2.1, .int .i64 r82.1.2.2.2.2.1, .int .i64 r82.1.2.2.2.2.2.1, .slice r82.1.2.2.2.2.2.2.1 r82.1.2.2.2.2.2.2.2.1 r82.1.2.2.2.2.2.2.2.2] (fun h86 =>
  cutT [.sc .bool] (fun (K87 : Bool → Heap → Prop) h104 =>
  ifW r82.2 (br (!(isNilV r82.2))
  (K87 true h104)
  (ldW .slice a27 (fun (x88 : Option Addr × Nat × Nat) =>
  callT Tryz.prog 46 [.pointer (some d_0), .int .i64 zone_1] [.sc (.int .i64)] (fun (r89 : Int) h90 =>
  (cellH h90 a27 = some (.slice x88.1 x88.2.1 x88.2.2) ∧ br ((((x88.2.1 : Nat) : Int)) != r89)
  (K87 true h90)
  (ldW (.int .u32) (Addr.add a84 0) (fun (x91 : Int) =>
  ldW (.int .u32) (Addr.add a29 3) (fun (x92 : Int) =>
  br (x91 != x92)
  (K87 true h90)
  (ldW (.int .u32) (Addr.add a84 1) (fun (x93 : Int) =>
  ldW (.int .u32) (Addr.add a29 1) (fun (x94 : Int) =>
  br (x93 != x94)
  (K87 true h90)
  (ldW (.int .i64) (Addr.add (Addr.add a84 3) 0) (fun (x95 : Int) =>
  callT Tryz.prog 33 [.pointer (some d_0)] [.sc (.int .i64)] (fun (r96 : Int) h97 =>
  (cellH h97 (Addr.add (Addr.add a84 3) 0) = some (.int .i64 x95) ∧ (cellH h97 a27 = some (.slice x88.1 x88.2.1 x88.2.2) ∧ br (x95 != r96)
  (K87 true h97)
  (ldW (.int .i64) (Addr.add (Addr.add a84 3) 1) (fun (x98 : Int) =>
  callT Tryz.prog 34 [.pointer (some d_0)] [.sc (.int .i64)] (fun (r99 : Int) h100 =>
  (cellH h100 (Addr.add (Addr.add a84 3) 1) = some (.int .i64 x98) ∧ (cellH h100 (Addr.add (Addr.add a84 3) 0) = some (.int .i64 x95) ∧ (cellH h100 a27 = some (.slice x88.1 x88.2.1 x88.2.2) ∧ br (x98 != r99)
  (K87 true h100)
  (ldW (.int .u32) (Addr.add a84 0) (fun (x101 : Int) =>
  callT Tryz.prog 22 [.pointer (some d_0), .int .u32 x101] [.sc (.int .i64)] (fun (r102 : Int) h103 =>
  (cellH h103 (Addr.add (Addr.add a84 3) 1) = some (.int .i64 x98) ∧ (cellH h103 (Addr.add (Addr.add a84 3) 0) = some (.int .i64 x95) ∧ (cellH h103 a27 = some (.slice x88.1 x88.2.1 x88.2.2) ∧ K87 (r102 != zone_1) h103)))) h100) h100))))) h97) h97)))) h90) h90)) h90) h90)) h90) h90))) h104) h104))) (fun (s105 : Bool) _ h106 =>
  br s105
  (callT Tryz.prog 35 [.string ((⟨#[115, 108, 111, 116]⟩ : ByteArray)), .int .i64 zone_1, .iface 31 (.int .i64 10)] [.sc .any] (fun (r107 : Value) h108 =>
  stLW a1 [.int .u32 0, .int .u32 0, .int .u32 0, .int .i64 0, .int .i64 0, .int .i64 0, .slice none 0 0] (fun h109 =>
  (∀ h110, Taken h0.size h109 h110 →
  ldAggW [.int .u32, .int .u32, .int .u32, .int .i64, .int .i64, .int .i64, .slice] a1 (fun (x111 : Int × Int × Int × Int × Int × Int × (Option Addr × Nat × Nat)) =>
  K (.tuple #[.agg #[.int .u32 x111.1, .int .u32 x111.2.1, .int .u32 x111.2.2.1, .int .i64 x111.2.2.2.1, .int .i64 x111.2.2.2.2.1, .int .i64 x111.2.2.2.2.2.1, .slice x111.2.2.2.2.2.2.1 x111.2.2.2.2.2.2.2.1 x111.2.2.2.2.2.2.2.2], r107]) h110) h110)) h108) h106)
  (ldAggW [.int .u32, .int .u32, .int .u32, .int .i64, .int .i64, .int .i64, .slice] a84 (fun (x112 : Int × Int × Int × Int × Int × Int × (Option Addr × Nat × Nat)) =>
  stLW a1 [.int .u32 x112.1, .int .u32 x112.2.1, .int .u32 x112.2.2.1, .int .i64 x112.2.2.2.1, .int .i64 x112.2.2.2.2.1, .int .i64 x112.2.2.2.2.2.1, .slice x112.2.2.2.2.2.2.1 x112.2.2.2.2.2.2.2.1 x112.2.2.2.2.2.2.2.2] (fun h113 =>
  (∀ h114, Taken h0.size h113 h114 →
  ldAggW [.int .u32, .int .u32, .int .u32, .int .i64, .int .i64, .int .i64, .slice] a1 (fun (x115 : Int × Int × Int × Int × Int × Int × (Option Addr × Nat × Nat)) =>
  K (.tuple #[.agg #[.int .u32 x115.1, .int .u32 x115.2.1, .int .u32 x115.2.2.1, .int .i64 x115.2.2.2.1, .int .i64 x115.2.2.2.2.1, .int .i64 x115.2.2.2.2.2.1, .slice x115.2.2.2.2.2.2.1 x115.2.2.2.2.2.2.2.1 x115.2.2.2.2.2.2.2.2], .nilIface]) h114) h114)) h106) h106)) h86) h85) h83) h80) h80) h30) h28) h26) h2) h0)
set_option maxRecDepth 100000 in
theorem F17_eq (d_0 : Addr) (zone_1 : Int) (K : Value → Heap → Prop) (h0 : Heap) : funWE Tryz.prog 17 (.seq (.leaf) (.seq (.bcut [(5, .sc .any)] (.seq (.leaf) (.cond (.seq (.leaf) (.leaf)) (.seq (.leaf) (.cond (.seq (.leaf) (.leaf)) (.leaf)))))) (.seq (.leaf) (.seq (.leaf) (.cut [] (.seq (.leaf) (.block (.range [.agg [.int .u8, .int .u32, .int .u32, .int .u32], .sc .slice] [1] (.seq (.leaf) (.leaf)) (.block (.cut [] (.seq (.leaf) (.cond (.leaf) (.leaf))) (.seq (.seq (.leaf) (.seq (.leaf) (.cond (.leaf) (.leaf)))) (.leaf))))))) (.seq (.leaf) (.seq (.cut [(113, .sc .bool)] (.draw (odp [0, 1, 2, 3, 4, 5, 6, 7, 8, 9, 10, 11, 12, 13, 14, 15, 16, 17, 18, 19, 20, 21, 22, 23, 24, 25, 26, 27, 28, 29, 30, 31, 32, 33, 34, 35, 36, 37, 38, 39, 40, 41, 42, 43, 45, 44, 46, 47] .nil) [200003, 200027, 200035]) (.cond (.seq (.leaf) (.leaf)) (.leaf))) (.seq (.leaf) (.leaf))))))))) [.pointer (some d_0), .int .i64 zone_1] K h0 = F17 d_0 zone_1 K h0 := by kernel_rfl

-- function 59
set_option maxRecDepth 100000 in
def F59 (n_0 : Int) (other_1 : Int) (K : Value → Heap → Prop) (h0 : Heap) : Prop := (
  br ((IntKind.wrap .u32 (n_0 - other_1)) == (1 : Int))
  (K (.bool true) h0)
  (br ((IntKind.wrap .u32 (other_1 - n_0)) != (1 : Int))
  (K (.bool (decide (n_0 > other_1))) h0)
  (K (.bool false) h0)))
set_option maxRecDepth 100000 in
theorem F59_eq (n_0 : Int) (other_1 : Int) (K : Value → Heap → Prop) (h0 : Heap) : funWE Tryz.prog 59 (.seq (.leaf) (.seq (.leaf) (.leaf))) [.int .u32 n_0, .int .u32 other_1] K h0 = F59 n_0 other_1 K h0 := by kernel_rfl

-- function 20
set_option maxRecDepth 100000 in
def F20 (d_0 : Addr) (K : Value → Heap → Prop) (h0 : Heap) : Prop := (
  newW (.cells (zeroC Tryz.prog 40) 40) (fun a1 h2 =>
  cutT [] (fun (K3 : Unit → Heap → Prop) h10 =>
  callT Tryz.prog 33 [.pointer (some d_0)] [.sc (.int .i64)] (fun (r4 : Int) h5 =>
  br (decide (r4 < (2 : Int)))
  (callT Tryz.prog 45 [.pointer (some d_0)] [.sc .bool] (fun (r6 : Bool) h7 =>
  br (!r6)
  (stLW a1 [.int .u32 0, .int .u32 0, .int .u32 0, .int .i64 0, .int .i64 0, .int .i64 0, .slice none 0 0] (fun h8 =>
  ldAggW [.int .u32, .int .u32, .int .u32, .int .i64, .int .i64, .int .i64, .slice] a1 (fun (x9 : Int × Int × Int × Int × Int × Int × (Option Addr × Nat × Nat)) =>
  K (.tuple #[.agg #[.int .u32 x9.1, .int .u32 x9.2.1, .int .u32 x9.2.2.1, .int .i64 x9.2.2.2.1, .int .i64 x9.2.2.2.2.1, .int .i64 x9.2.2.2.2.2.1, .slice x9.2.2.2.2.2.2.1 x9.2.2.2.2.2.2.2.1 x9.2.2.2.2.2.2.2.2], .iface 31 (.int .i64 1)]) h8) h8) h7)
  (K3 () h7)) h5)
  (K3 () h5)) h10) (fun (_s11 : Unit) _ h12 =>
  callT Tryz.prog 33 [.pointer (some d_0)] [.sc (.int .i64)] (fun (r13 : Int) h14 =>
  callT Tryz.prog 17 [.pointer (some d_0), .int .i64 (IntKind.wrap .i64 (r13 - (2 : Int)))] [.agg [.int .u32, .int .u32, .int .u32, .int .i64, .int .i64, .int .i64, .slice], .sc .any] (fun (r15 : (Int × Int × Int × Int × Int × Int × (Option Addr × Nat × Nat)) × Value) h16 =>
  newW (.cells (zeroC Tryz.prog 40) 40) (fun a17 h18 =>
  stLW a17 [.int .u32 r15.1.1, .int .u32 r15.1.2.1, .int .u32 r15.1.2.2.1, .int .i64 r15.1.2.2.2.1, .int .i64 r15.1.2.2.2.2.1, .int .i64 r15.1.2.2.2.2.2.1, .slice r15.1.2.2.2.2.2.2.1 r15.1.2.2.2.2.2.2.2.1 r15.1.2.2.2.2.2.2.2.2] (fun h19 =>
  callT Tryz.prog 33 [.pointer (some d_0)] [.sc (.int .i64)] (fun (r20 : Int) h21 =>
  callT Tryz.prog 17 [.pointer (some d_0), .int .i64 (IntKind.wrap .i64 (r20 - (1 : Int)))] [.agg [.int .u32, .int .u32, .int .u32, .int .i64, .int .i64, .int .i64, .slice], .sc .any] (fun (r22 : (Int × Int × Int × Int × Int × Int × (Option Addr × Nat × Nat)) × Value) h23 =>
  newW (.cells (zeroC Tryz.prog 40) 40) (fun a24 h25 =>
  stLW a24 [.int .u32 r22.1.1, .int .u32 r22.1.2.1, .int .u32 r22.1.2.2.1, .int .i64 r22.1.2.2.2.1, .int .i64 r22.1.2.2.2.2.1, .int .i64 r22.1.2.2.2.2.2.1, .slice r22.1.2.2.2.2.2.2.1 r22.1.2.2.2.2.2.2.2.1 r22.1.2.2.2.2.2.2.2.2] (fun h26 =>
  cutT [.sc .bool] (fun (K27 : Bool → Heap → Prop) h30 =>
  callT Tryz.prog 58 [r15.2, .iface 31 (.int .i64 7)] [.sc .bool] (fun (r28 : Bool) h29 =>
  br r28
  (K27 true h29)
  (ifW r15.2 (br (!(isNilV r15.2))
  (ifW r22.2 (K27 (!(isNilV r22.2)) h29))
  (K27 false h29)))) h30) (fun (s31 : Bool) _ h32 =>
  br s31
  (stLW a1 [.int .u32 0, .int .u32 0, .int .u32 0, .int .i64 0, .int .i64 0, .int .i64 0, .slice none 0 0] (fun h33 =>
  ldAggW [.int .u32, .int .u32, .int .u32, .int .i64, .int .i64, .int .i64, .slice] a1 (fun (x34 : Int × Int × Int × Int × Int × Int × (Option Addr × Nat × Nat)) =>
  K (.tuple #[.agg #[.int .u32 x34.1, .int .u32 x34.2.1, .int .u32 x34.2.2.1, .int .i64 x34.2.2.2.1, .int .i64 x34.2.2.2.2.1, .int .i64 x34.2.2.2.2.2.1, .slice x34.2.2.2.2.2.2.1 x34.2.2.2.2.2.2.2.1 x34.2.2.2.2.2.2.2.2], r15.2]) h33) h33) h32)
  (cutT [.sc .bool] (fun (K35 : Bool → Heap → Prop) h40 =>
  ifW r15.2 (br (!(isNilV r15.2))
  (K35 true h40)
  (ifW r22.2 (br (isNilV r22.2)
  (ldW (.int .u32) (Addr.add a24 0) (fun (x36 : Int) =>
  ldW (.int .u32) (Addr.add a17 0) (fun (x37 : Int) =>
  callT Tryz.prog 59 [.int .u32 x36, .int .u32 x37] [.sc .bool] (fun (r38 : Bool) h39 =>
  K35 r38 h39) h40) h40) h40)
  (K35 false h40))))) (fun (s41 : Bool) _ h42 =>
  br s41
  (ldAggW [.int .u32, .int .u32, .int .u32, .int .i64, .int .i64, .int .i64, .slice] a24 (fun (x43 : Int × Int × Int × Int × Int × Int × (Option Addr × Nat × Nat)) =>
  stLW a1 [.int .u32 x43.1, .int .u32 x43.2.1, .int .u32 x43.2.2.1, .int .i64 x43.2.2.2.1, .int .i64 x43.2.2.2.2.1, .int .i64 x43.2.2.2.2.2.1, .slice x43.2.2.2.2.2.2.1 x43.2.2.2.2.2.2.2.1 x43.2.2.2.2.2.2.2.2] (fun h44 =>
  ldAggW [.int .u32, .int .u32, .int .u32, .int .i64, .int .i64, .int .i64, .slice] a1 (fun (x45 : Int × Int × Int × Int × Int × Int × (Option Addr × Nat × Nat)) =>
  K (.tuple #[.agg #[.int .u32 x45.1, .int .u32 x45.2.1, .int .u32 x45.2.2.1, .int .i64 x45.2.2.2.1, .int .i64 x45.2.2.2.2.1, .int .i64 x45.2.2.2.2.2.1, .slice x45.2.2.2.2.2.2.1 x45.2.2.2.2.2.2.2.1 x45.2.2.2.2.2.2.2.2], .nilIface]) h44) h44) h42) h42)
  (ldAggW [.int .u32, .int .u32, .int .u32, .int .i64, .int .i64, .int .i64, .slice] a17 (fun (x46 : Int × Int × Int × Int × Int × Int × (Option Addr × Nat × Nat)) =>
  stLW a1 [.int .u32 x46.1, .int .u32 x46.2.1, .int .u32 x46.2.2.1, .int .i64 x46.2.2.2.1, .int .i64 x46.2.2.2.2.1, .int .i64 x46.2.2.2.2.2.1, .slice x46.2.2.2.2.2.2.1 x46.2.2.2.2.2.2.2.1 x46.2.2.2.2.2.2.2.2] (fun h47 =>
  ldAggW [.int .u32, .int .u32, .int .u32, .int .i64, .int .i64, .int .i64, .slice] a1 (fun (x48 : Int × Int × Int × Int × Int × Int × (Option Addr × Nat × Nat)) =>
  K (.tuple #[.agg #[.int .u32 x48.1, .int .u32 x48.2.1, .int .u32 x48.2.2.1, .int .i64 x48.2.2.2.1, .int .i64 x48.2.2.2.2.1, .int .i64 x48.2.2.2.2.2.1, .slice x48.2.2.2.2.2.2.1 x48.2.2.2.2.2.2.2.1 x48.2.2.2.2.2.2.2.2], .nilIface]) h47) h47) h42) h42)) h32)) h26) h25) h23) h21) h19) h18) h16) h14) h12) h2) h0)
set_option maxRecDepth 100000 in
theorem F20_eq (d_0 : Addr) (K : Value → Heap → Prop) (h0 : Heap) : funWE Tryz.prog 20 (.seq (.leaf) (.cut [] (.seq (.leaf) (.cond (.seq (.leaf) (.leaf)) (.leaf))) (.seq (.leaf) (.seq (.leaf) (.seq (.block (.cut [(34, .sc .bool)] (.leaf) (.cond (.seq (.leaf) (.leaf)) (.cut [(48, .sc .bool)] (.leaf) (.cond (.seq (.leaf) (.leaf)) (.leaf)))))) (.seq (.leaf) (.leaf))))))) [.pointer (some d_0)] K h0 = F20 d_0 K h0 := by kernel_rfl

end Go.Proofs.YthimfpkkdhpceaaGreatDoor.W
