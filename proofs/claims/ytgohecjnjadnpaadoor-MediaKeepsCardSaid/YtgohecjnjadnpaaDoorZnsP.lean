/-
  The contracts of package zns.
-/
import Derived.Test.YtgohecjnjadnpaaDoorZns
import Derived.Test.YtgohecjnjadnpaaDoorHead
namespace Go.Proofs.YtgohecjnjadnpaaDoor.ZnsP
open Go.Pl Go.Proofs.YtgohecjnjadnpaaDoor.W Go.Proofs.YtgohecjnjadnpaaDoor.Byts Go.Proofs.YtgohecjnjadnpaaDoor.As Go.Proofs.YtgohecjnjadnpaaDoor.Upto Go.Proofs.YtgohecjnjadnpaaDoor.Zns
abbrev PD := DR LoP
abbrev PRep := DRep LoP
abbrev ptr (b : Nat) : Value := .pointer (some ⟨b, 0, none⟩)
theorem there_ok {k b : Nat} {t : Tags} {D : Dev} (n : Int) (h : Heap) (r : PRep k t h b D) : CallsH Tryd.prog 80 [ptr b, .int .i64 n] h fun v h' => v = .bool (D.there n) ∧ h' = h := by
  refine fun_ok hm' Tryd.func80 (by kernel_rfl) (F80_eq _ _ _ h) ?_
  unfold F80
  obtain ⟨za, c, arr, r⟩ := r
  refine br_of (fun h0 => ld_of (c := .slice) (some ⟨za, 0, none⟩, D.zs.length, c) r.cz ⟨?_, rfl⟩) fun h0 => ⟨?_, rfl⟩
  · have h0 := of_decide_eq_true h0
    unfold Dev.there; congr 1; simp; omega
  · have h0 := of_decide_eq_false h0
    unfold Dev.there; congr 1; symm; simp; omega
theorem zeroZ : zeroC Tryd.prog 140 = #[.int .i64 0, .bool false, .slice none 0 0] := by kernel_rfl
/-- A zone that is pointed at. -/
def AtZ (k : Nat) (t : Tags) (h : Heap) (p : Addr) (Z : Zn) : Prop := ∃ a c z, cellH h ((p.add 0).add 0) = some (.int .i64 (Z.sure : Int)) ∧ cellH h ((p.add 0).add 1) = some (.bool Z.fin) ∧ cellH h (p.add 2) = some (.slice a Z.pages.length c) ∧ PRow k z t h a c Z.pages
theorem at_ok {k b : Nat} {t : Tags} {D : Dev} (n : Int) (h : Heap) (r : PRep k t h b D) : CallsH Tryd.prog 79 [ptr b, .int .i64 n] h fun v h' => ∃ p, v = .pointer (some p) ∧ New h h' ∧ AtZ k t h' p (D.at_ n) := by
  refine fun_ok hm' Tryd.func79 (by kernel_rfl) (F79_eq _ _ _ h) ?_
  unfold F79
  refine call_of (there_ok n h r) ?_
  rintro v h' ⟨rfl, hh⟩; subst h'
  refine ⟨D.there n, rfl, ?_⟩
  cases ht : D.there n with
  | false =>
    refine br_t rfl (new_of fun h1 b1 n1 s1 => ⟨⟨h.size, 0, none⟩, rfl, n1, none, 0, 0, ?_, ?_, ?_, ?_⟩)
    · rw [at_none ht, add_mk, add_mk, cellH_blk b1]; rfl
    · rw [at_none ht, add_mk, add_mk, cellH_blk b1]; rfl
    · rw [at_none ht, add_mk, cellH_blk b1]; rfl
    · rw [at_none ht]; exact PRow.nil _ _ _ _
  | true =>
    obtain ⟨z, rfl, hz⟩ := there_nat ht
    obtain ⟨za, c, arr, r⟩ := r
    obtain ⟨a, d, hp, c0, c1, c2⟩ := r.zP hz
    refine br_f rfl (ld_of (c := .slice) (some ⟨za, 0, none⟩, D.zs.length, c) r.cz (ptr_of (ix_of hz ⟨⟨za, z * 3, none⟩, by rw [add_mk, Int.toNat_natCast, Nat.zero_add], New.refl h, a, d, z, ?_, ?_, ?_, ?_⟩)))
    · rw [at_of hz, add_mk, add_mk]; exact r.cell (j := 0) c0 _ rfl
    · rw [at_of hz, add_mk, add_mk]; exact r.cell c1 _ rfl
    · rw [at_of hz, add_mk]; exact r.cell c2 _ rfl
    · rw [at_of hz]; exact hp
theorem point_ok {k b : Nat} {t : Tags} {D : Dev} (n : Int) (h : Heap) (r : PRep k t h b D) : CallsH Tryd.prog 32 [ptr b, .int .i64 n] h fun v h' => v = .int .i64 (D.point n : Int) ∧ New h h' := by
  refine fun_ok hm' Tryd.func32 (by kernel_rfl) (F32_eq _ _ _ h) ?_
  unfold F32
  refine call_of (at_ok n h r) ?_
  rintro v h1 ⟨p, rfl, n1, a, c, z, c0, c1, c2, _⟩
  exact ⟨some p, rfl, ptr_of (ld_of (c := .slice) (a, (D.at_ n).pages.length, c) c2 ⟨rfl, n1⟩)⟩
theorem sure_ok {k b : Nat} {t : Tags} {D : Dev} (n : Int) (h : Heap) (r : PRep k t h b D) : CallsH Tryd.prog 31 [ptr b, .int .i64 n] h fun v h' => v = .int .i64 (D.sure n : Int) ∧ New h h' := by
  refine fun_ok hm' Tryd.func31 (by kernel_rfl) (F31_eq _ _ _ h) ?_
  unfold F31
  refine call_of (at_ok n h r) ?_
  rintro v h1 ⟨p, rfl, n1, a, c, z, c0, c1, c2, _⟩
  exact ⟨some p, rfl, ptr_of (ld_of (c := .int .i64) ((D.at_ n).sure : Int) c0 ⟨rfl, n1⟩)⟩
theorem state_ok {k b : Nat} {t : Tags} {D : Dev} (n : Int) (h : Heap) (r : PRep k t h b D) : CallsH Tryd.prog 64 [ptr b, .int .i64 n] h fun v h' => v = .int .i64 (D.state n) ∧ New h h' := by
  refine fun_ok hm' Tryd.func64 (by kernel_rfl) (F64_eq _ _ _ h) ?_
  unfold F64
  refine call_of (at_ok n h r) ?_
  rintro v h1 ⟨p, rfl, n1, a, c, z, c0, c1, c2, _⟩
  obtain ⟨za, d, arr, r1⟩ := r.new n1
  refine ⟨some p, rfl, ptr_of (ld_of (c := .slice) (a, (D.at_ n).pages.length, c) c2 (br_of (fun h0 => ⟨?_, n1⟩) fun h0 => ptr_of (ld_of (c := .bool) (D.at_ n).fin c1 (br_of (fun hf => ⟨?_, n1⟩) fun hf => ptr_of (ld_of (c := .slice) (a, (D.at_ n).pages.length, c) c2 (ld_of (c := .int .i64) (D.P : Int) r1.cP (br_of (fun hp => ⟨?_, n1⟩) fun hp => ⟨?_, n1⟩)))))))⟩
  · have h0 : (D.at_ n).pages.length = 0 := by simp only [beq_iff_eq] at h0; omega
    unfold Dev.state; rw [if_pos h0]
  · have h0 : ¬ (D.at_ n).pages.length = 0 := by simp only [beq_eq_false_iff_ne, ne_eq] at h0; omega
    unfold Dev.state; rw [if_neg h0, if_pos (.inl hf)]
  · have h0 : ¬ (D.at_ n).pages.length = 0 := by simp only [beq_eq_false_iff_ne, ne_eq] at h0; omega
    have hp : (D.at_ n).pages.length = D.P := by simp only [beq_iff_eq] at hp; omega
    unfold Dev.state; rw [if_neg h0, if_pos (.inr hp)]
  · have h0 : ¬ (D.at_ n).pages.length = 0 := by simp only [beq_eq_false_iff_ne, ne_eq] at h0; omega
    have hp : ¬ (D.at_ n).pages.length = D.P := by simp only [beq_eq_false_iff_ne, ne_eq] at hp; omega
    unfold Dev.state; rw [if_neg h0, if_neg (by simp [hf, hp])]
theorem zones_ok {k b : Nat} {t : Tags} {D : Dev} (h : Heap) (r : PRep k t h b D) : CallsH Tryd.prog 65 [ptr b] h fun v h' => v = .int .i64 (D.zs.length : Int) ∧ h' = h := by
  refine fun_ok hm' Tryd.func65 (by kernel_rfl) (F65_eq _ _ h) ?_
  unfold F65
  obtain ⟨za, c, arr, r⟩ := r
  exact ld_of (c := .slice) (some ⟨za, 0, none⟩, D.zs.length, c) r.cz ⟨rfl, rfl⟩
theorem pages_ok {k b : Nat} {t : Tags} {D : Dev} (h : Heap) (r : PRep k t h b D) : CallsH Tryd.prog 66 [ptr b] h fun v h' => v = .int .i64 (D.P : Int) ∧ h' = h := by
  refine fun_ok hm' Tryd.func66 (by kernel_rfl) (F66_eq _ _ h) ?_
  unfold F66
  obtain ⟨za, c, arr, r⟩ := r
  exact ld_of (c := .int .i64) (D.P : Int) r.cP ⟨rfl, rfl⟩
theorem down_ok {k b : Nat} {t : Tags} {D : Dev} (h : Heap) (r : PRep k t h b D) : CallsH Tryd.prog 34 [ptr b] h fun v h' => v = .bool D.down ∧ h' = h := by
  refine fun_ok hm' Tryd.func34 (by kernel_rfl) (F34_eq _ _ h) ?_
  unfold F34
  obtain ⟨za, c, arr, r⟩ := r
  exact ld_of (c := .bool) D.down r.cd ⟨rfl, rfl⟩
theorem ops_ok {k b : Nat} {t : Tags} {D : Dev} (h : Heap) (r : PRep k t h b D) : CallsH Tryd.prog 36 [ptr b] h fun v h' => v = .int .i64 D.ops ∧ h' = h := by
  refine fun_ok hm' Tryd.func36 (by kernel_rfl) (F36_eq _ _ h) ?_
  unfold F36
  obtain ⟨za, c, arr, r⟩ := r
  exact ld_of (c := .int .i64) D.ops r.co ⟨rfl, rfl⟩
theorem fuse_ok {k b : Nat} {t : Tags} {D : Dev} (n : Int) (h : Heap) (r : PRep k t h b D) : CallsH Tryd.prog 35 [ptr b, .int .i64 n] h fun v h' => v = .tuple #[] ∧ PRep k t h' b (D.setFuse n) ∧ Upd b h h' := by
  refine fun_ok hm' Tryd.func35 (by kernel_rfl) (F35_eq _ _ _ h) ?_
  unfold F35
  obtain ⟨za, c, arr, r⟩ := r
  rw [add_mk, mm2_max]
  refine st_blk r.blk (show 0 + 2 < 5 by omega) fun h1 b1 o1 => ⟨rfl, ⟨za, c, arr, r.setD rfl b1 o1.upd⟩, o1.upd⟩
/-- A call that isn't done. -/
theorem doing_no_ok {k b : Nat} {t : Tags} {D : Dev} (e : Int) (f : Value) (h : Heap) (r : PRep k t h b D) (hn : (D.doing e).2 ≠ 0) :
    CallsH Tryd.prog 82 [ptr b, .int .i64 e, f] h fun v h' => v = errV (D.doing e).2 ∧ PRep k t h' b (D.doing e).1 ∧ Upd b h h' := by
  refine fun_ok hm' Tryd.func82 (by kernel_rfl) (F82_eq _ _ _ _ h) ?_
  unfold F82
  obtain ⟨za, c, arr, r⟩ := r
  refine ld_of (c := .bool) D.down r.cd (br_of (fun hd => ?_) fun hd => br_of (fun he => ?_) fun he => ld_of (c := .int .i64) D.fuse r.cf (br_of (fun hf => ?_) fun hf => ?_))
  · have e1 : D.doing e = (D, 7) := by unfold Dev.doing; rw [if_pos hd]
    rw [e1]; exact ⟨rfl, ⟨za, c, arr, r⟩, Upd.refl _ _⟩
  · have he : e ≠ 0 := by simpa using he
    have e1 : D.doing e = (D, e) := by unfold Dev.doing; rw [if_neg (by simp [hd]), if_pos he]
    rw [e1]; exact ⟨(errV_ne he).symm, ⟨za, c, arr, r⟩, Upd.refl _ _⟩
  · have he : e = 0 := by simpa using he
    have hf : D.fuse = 0 := by simpa using hf
    have e1 : D.doing e = ({ D with down := true }, 7) := by unfold Dev.doing; rw [if_neg (by simp [hd]), if_neg (by simp [he]), if_pos hf]
    rw [e1, add_mk]
    exact st_blk r.blk (show 0 + 4 < 5 by omega) fun h1 b1 o1 => ⟨rfl, ⟨za, c, arr, r.setD rfl b1 o1.upd⟩, o1.upd⟩
  · exfalso; apply hn
    have he : e = 0 := by simpa using he
    have hf : D.fuse ≠ 0 := by simpa using hf
    unfold Dev.doing; rw [if_neg (by simp [hd]), if_neg (by simp [he]), if_neg hf]
/-- A call that is done: what does it, is run. -/
theorem doing_yes {k b za c : Nat} {t : Tags} {arr : Array Value} {D : Dev} (o : DevOk D) (e : Int) (g : FuncId) (first cap : Array Value) (h : Heap) (r : PD k t h b za c arr D) (h0 : (D.doing e).2 = 0) {R : Value → Heap → Prop}
    (hc : ∀ h', PD k t h' b za c arr (D.doing e).1 → Upd b h h' → h'.size = h.size → CallsH Tryd.prog g (first.toList ++ [] ++ cap.toList) h' R) :
    CallsH Tryd.prog 82 [ptr b, .int .i64 e, .func (.func g) first cap] h fun v h' => v = .nilIface ∧ ∃ u, R u h' := by
  obtain ⟨rfl, hd, hf, e1⟩ := doing_ok h0
  refine fun_ok hm' Tryd.func82 (by kernel_rfl) (F82_eq _ _ _ _ h) ?_
  unfold F82
  have ho := o.fuse
  refine ld_of (c := .bool) D.down r.cd (br_f hd (br_f rfl (ld_of (c := .int .i64) D.fuse r.cf (br_f (by simpa using hf) (ld_of (c := .int .i64) D.fuse r.cf ?_)))))
  rw [mm2_max, wr64 (by omega) (by omega), add_mk]
  refine st_blk r.blk (show 0 + 2 < 5 by omega) fun h1 b1 o1 => ?_
  have r1 : PD k t h1 b za c arr { D with fuse := max (D.fuse - 1) (-1) } := r.setD rfl b1 o1.upd
  refine ld_of (c := .int .i64) D.ops r1.co ?_
  rw [add_mk]
  refine st_blk r1.blk (show 0 + 3 < 5 by omega) fun h2 b2 o2 => ?_
  have r2 : PD k t h2 b za c arr (D.doing 0).1 := by rw [e1]; exact r1.setD rfl b2 o2.upd
  refine callW_of (hc h2 r2 (o1.upd.trans o2.upd) (by rw [o2.size, o1.size])) ?_
  rintro v h3 hR
  exact ⟨v, rfl, rfl, v, hR⟩
theorem appendF_ok {k b za c z : Nat} {t : Tags} {arr : Array Value} {D : Dev} (o : DevOk D) (p1 p2 p3 : Nat) (T1 T2 T3 : TypeId) (ba : Option Addr) (bc : Nat) (bs : List Int) (h : Heap) (r : PD k t h b za c arr D) (hz : z < D.zs.length) (hl : bs.length ≤ 1000)
    (b1 : Blk h p1 #[ptr b] T1) (b2 : Blk h p2 #[.int .i64 (z : Int)] T2) (b3 : Blk h p3 #[.slice ba bs.length bc] T3) (ht1 : (t p1).1 = 0) (ht2 : (t p2).1 = 0) (ar : Ar .u8 h ba bs) :
    CallsH Tryd.prog 97 [ptr p1, ptr p2, ptr p3] h fun v h' => v = .tuple #[] ∧ ∃ t', PRep k t' h' b (D.setZ (z : Int) { D.at_ (z : Int) with pages := (D.at_ (z : Int)).pages ++ [bs] }) ∧ Fr (fun p => p.1 ≠ k) t h t' h' := by
  refine fun_ok hm' Tryd.func97 (by kernel_rfl) (F97_eq _ _ _ _ h) ?_
  unfold F97
  obtain ⟨a, d, hp, c0, c1, c2⟩ := r.zP hz
  have hk := r.own
  have e1 : cellH h ⟨p1, 0, none⟩ = some (ptr b) := by rw [cellH_blk b1]; rfl
  have e2 : cellH h ⟨p2, 0, none⟩ = some (.int .i64 (z : Int)) := by rw [cellH_blk b2]; rfl
  have e3 : cellH h ⟨p3, 0, none⟩ = some (.slice ba bs.length bc) := by rw [cellH_blk b3]; rfl
  refine ld_of (c := .ptr) (some ⟨b, 0, none⟩) e1 (ptr_of (ld_of (c := .slice) (some ⟨za, 0, none⟩, D.zs.length, c) r.cz (ld_of (c := .int .i64) (z : Int) e2 (ld_of (c := .ptr) (some ⟨b, 0, none⟩) e1 (ptr_of (ld_of (c := .slice) (some ⟨za, 0, none⟩, D.zs.length, c) r.cz (ld_of (c := .int .i64) (z : Int) e2 (ptr_of (ix_of hz ?_)))))))))
  refine ld_of (c := .slice) (a, D.zs[z].pages.length, d) (by rw [add_mk, add_mk, Int.toNat_natCast]; exact r.cell c2 _ (by omega)) (ld_of (c := .slice) (ba, bs.length, bc) e3 (call_of (Head.clone_ok ba bc bs _ rfl h ar (by omega)) ?_))
  rintro v h1 ⟨a1, k1, rfl, g1⟩
  refine ⟨(a1, bs.length, k1), rfl, ?_, g1.new.ext⟩
  have s1 : Fr (fun p => p.1 ≠ k) t h (lay t h.size (0, 0)) h1 := Fr.lay g1.new _
  have r1 : PD k (lay t h.size (0, 0)) h1 b za c arr D := r.fr (S := fun _ => True) (Fr.lay g1.new _) (fun _ _ => trivial) fun _ => trivial
  have hp1 : PRow k z (lay t h.size (0, 0)) h1 a d D.zs[z].pages := hp.fr (S := fun _ => True) (Fr.lay g1.new _) (fun _ _ => trivial) trivial
  refine PRow.push hp1 hk (Im.got g1 (0, 0) rfl) ⟨g1.row.le, g1.row.capMax, fun e => by subst e; exact g1.row.none0.2.1⟩ (by have := o.len hz; omega) fun a2 c2' h2 t2 f2 hp2 => ?_
  have hS : ∀ q : Nat × Nat, q.1 = 0 → q ≠ (k, 2 + z) := fun q hq e => by subst e; exact hk hq
  have f02 : Fr (fun q => q ≠ (k, 2 + z)) t h t2 h2 := (Fr.lay g1.new _).trans f2
  have zb : ∀ p : Nat, (t p).1 = 0 → t p ≠ (k, 2 + z) := fun p hp => hS _ hp
  have b1' := f02.blk b1 (zb _ ht1); have b2' := f02.blk b2 (zb _ ht2)
  have bD := f02.blk r.blk (by rw [r.tagB]; exact tagne (by omega))
  have bZ := f02.blk r.zblk (by rw [r.tagZ]; exact tagne (by omega))
  refine ⟨by rw [cellH_blk b2']; rfl, by rw [add_mk, cellH_blk bD]; rfl, by rw [cellH_blk b1']; rfl, ptr_of (ix_of hz ?_)⟩
  have hsz := r.size; have hle := r.le
  rw [add_mk, add_mk, Int.toNat_natCast, Nat.zero_add]
  refine st_blk bZ (by omega) fun h3 b3' o3 => ?_
  obtain ⟨q1, q2, q3, q4⟩ := set3 (arr := arr) (z := z) (o := 2) (n := z * 3 + 2) (v := .slice a2 (D.zs[z].pages.length + 1) c2') (by omega) (by omega) rfl
  have f23 : Fr (fun q => q ≠ (k, 1)) t2 h2 t2 h3 := Fr.upd o3.upd fun hn => hn (by rw [f02.tags za r.zblk.lt]; exact r.tagZ)
  have hS' : ∀ q : Nat × Nat, q.1 = 0 → q ≠ (k, 1) := fun q hq e => by subst e; exact hk hq
  have f03 : Fr (fun q => q ≠ (k, 1) ∧ q ≠ (k, 2 + z)) t h t2 h3 := (f02.mono fun _ hq => hq.2).trans (f23.mono fun _ hq => hq.1)
  refine ⟨rfl, t2, ⟨za, c, arr.setIfInBounds (z * 3 + 2) (.slice a2 (D.zs[z].pages.length + 1) c2'), ?_⟩, f03.mono fun q hq => ⟨fun e => hq (by rw [e]), fun e => hq (by rw [e])⟩⟩
  have := r.put (Z := { D.zs[z] with pages := D.zs[z].pages ++ [bs] }) f03 (fun q hq => ⟨hS' q hq, hS q hq⟩) ⟨tagne (by omega), tagne (by omega)⟩ (fun j hj => ⟨tagne (by omega), tagne (by omega)⟩) b3' q1 q2 ⟨a2, c2', fun j hj => ?_, ?_⟩
  · have e : D.setZ (z : Int) { D.at_ (z : Int) with pages := (D.at_ (z : Int)).pages ++ [bs] } = { D with zs := D.zs.set z { D.zs[z] with pages := D.zs[z].pages ++ [bs] } } := by
      rw [at_of hz]; unfold Dev.setZ; rw [Int.toNat_natCast]
    rw [e]; exact this
  · match j, hj with
    | 0, _ => rw [q4 0 (by omega) (by omega)]; exact c0
    | 1, _ => rw [q4 1 (by omega) (by omega)]; exact c1
    | 2, _ => rw [q3]; simp [LoP]
  · exact hp2.fr f23 hS' (tagne (by omega))
/-- What a call answers: an error, or none; the device behind it, its blocks alone turned. -/
def Acted (k : Nat) (t : Tags) (h : Heap) (b : Nat) (D' : Dev) (h' : Heap) : Prop := ∃ t', PRep k t' h' b D' ∧ Fr (fun p => p.1 ≠ k) t h t' h'
theorem Acted.of_upd {k b : Nat} {t : Tags} {h h' : Heap} {D' : Dev} {D : Dev} (r0 : PRep k t h b D) (r : PRep k t h' b D') (u : Upd b h h') : Acted k t h b D' h' := by
  obtain ⟨za, c, arr, r0⟩ := r0
  exact ⟨t, r, Fr.upd u fun hn => hn (by rw [r0.tagB])⟩
theorem Acted.before {k b : Nat} {t : Tags} {h0 h h' : Heap} {D' : Dev} (a : Acted k (lay t h0.size (0, 0)) h b D' h') (n : New h0 h) : Acted k t h0 b D' h' := by
  obtain ⟨t', r, f⟩ := a
  exact ⟨t', r, (Fr.lay n (0, 0)).trans f⟩
theorem PRep.lay {k b : Nat} {t : Tags} {h h' : Heap} {D : Dev} (r : PRep k t h b D) (n : New h h') : PRep k (Pl.lay t h.size (0, 0)) h' b D := r.fr (S := fun _ => True) (Fr.lay n _) (fun _ _ => trivial) fun _ => trivial
theorem append_ok {k b : Nat} {t : Tags} {D : Dev} (o : DevOk D) (n : Int) (ba : Option Addr) (bc : Nat) (bs : List Int) (h : Heap) (r : PRep k t h b D) (hl : bs.length ≤ 1000) (im : Im .u8 t h ba bs) :
    CallsH Tryd.prog 63 [ptr b, .int .i64 n, .slice ba bs.length bc] h fun v h' => v = .tuple #[.int .i64 ((D.append n bs).2.1), errV (D.append n bs).2.2] ∧ Acted k t h b (D.append n bs).1 h' := by
  refine fun_ok hm' Tryd.func63 (by kernel_rfl) (F63_eq _ _ _ _ _ _ h) ?_
  unfold F63
  refine new_of fun h1 b1 n1 s1 => new_of fun h2 b2 n2 s2 => new_of fun h3 b3 n3 s3 => ?_
  have n03 := (n1.trans n2).trans n3
  have b1 := (b1.new n2).new n3
  have b2 := b2.new n3
  have r3 := r.lay n03
  have e1 : ∀ {h' : Heap}, New h3 h' → cellH h' ⟨h.size, 0, none⟩ = some (ptr b) := fun n => by rw [cellH_blk (b1.new n)]; rfl
  have e2 : ∀ {h' : Heap}, New h3 h' → cellH h' ⟨h1.size, 0, none⟩ = some (.int .i64 n) := fun n => by rw [cellH_blk (b2.new n)]; rfl
  have e3 : ∀ {h' : Heap}, New h3 h' → cellH h' ⟨h2.size, 0, none⟩ = some (.slice ba bs.length bc) := fun n => by rw [cellH_blk (b3.new n)]; rfl
  refine cut_q (ts := [.sc (.int .i64)]) (fun (e : Int) h' => e = D.appendE n bs ∧ New h3 h') ?_ ?_
  rotate_left
  · intro K hK
    refine cut_q (ts := [.sc .bool]) (fun (s : Bool) h' => s = decide (D.there n = false ∨ bs.length ≠ 33) ∧ h' = h3) ?_ ?_
    · rintro s h' ⟨rfl, hh⟩ _; subst h'
      refine br_of (fun hs => hK _ _ ⟨?_, New.refl _⟩) fun hs => ?_
      · unfold Dev.appendE; rw [if_pos (of_decide_eq_true hs)]
      have hs := of_decide_eq_false hs
      refine ld_of (c := .ptr) (some ⟨b, 0, none⟩) (e1 (New.refl _)) (ld_of (c := .int .i64) n (e2 (New.refl _)) (call_of (state_ok n h3 r3) ?_))
      rintro v h4 ⟨rfl, n4⟩
      refine ⟨D.state n, rfl, br_of (fun h5 => hK _ _ ⟨?_, n4⟩) fun h5 => hK _ _ ⟨?_, n4⟩⟩
      · unfold Dev.appendE; rw [if_neg hs, if_pos (by simpa using h5)]
      · unfold Dev.appendE; rw [if_neg hs, if_neg (by simpa using h5)]
    · intro K2 hK2
      refine ld_of (c := .ptr) (some ⟨b, 0, none⟩) (e1 (New.refl _)) (ld_of (c := .int .i64) n (e2 (New.refl _)) (call_of (there_ok n h3 r3) ?_))
      rintro v h' ⟨rfl, hh⟩; subst h'
      refine ⟨D.there n, rfl, ?_⟩
      cases ht : D.there n with
      | false => exact br_t rfl (hK2 _ _ ⟨by simp [ht], rfl⟩)
      | true =>
        refine br_f rfl (ld_of (c := .slice) (ba, bs.length, bc) (e3 (New.refl _)) (hK2 _ _ ⟨?_, rfl⟩))
        rw [Bool.eq_iff_iff]; simp [ht]; omega
  rintro e h4 ⟨he, n4⟩ _
  have he : e = D.appendE n bs := he
  subst he
  refine ld_of (c := .ptr) (some ⟨b, 0, none⟩) (e1 n4) (ld_of (c := .int .i64) n (e2 n4) (call_of (point_ok n h4 (r3.new n4)) ?_))
  rintro v h5 ⟨rfl, n5⟩
  have n35 := n4.trans n5
  have n05 := n03.trans n35
  have r5 : PRep k (lay t h.size (0, 0)) h5 b D := r3.new n35
  refine ⟨(D.point n : Int), rfl, ld_of (c := .ptr) (some ⟨b, 0, none⟩) (e1 n35) ?_⟩
  by_cases h0 : (D.doing (D.appendE n bs)).2 = 0
  · have hE := (doing_ok h0).1
    have ea : D.append n bs = ((D.doing (D.appendE n bs)).1.setZ n { D.at_ n with pages := (D.at_ n).pages ++ [bs] }, (D.point n : Int), 0) := by
      unfold Dev.append; simp only []; rw [if_neg (by simp [h0])]
    rw [ea]
    have ht : D.there n = true := by
      cases ht : D.there n with
      | true => rfl
      | false => unfold Dev.appendE at hE; rw [if_pos (.inl ht)] at hE; cases hE
    obtain ⟨z, rfl, hz⟩ := there_nat ht
    obtain ⟨za, c, arr, r5'⟩ := r5
    have hn := fun (g : Nat) (hg : h.size ≤ g) => (lay_ge (t := t) (p := ((0, 0) : Nat × Nat)) hg)
    have sz1 := n1.size; have sz2 := n2.size
    have ne : ∀ g : Nat, h.size ≤ g → g ≠ b := fun g hg e => by have := hn g hg; rw [e, r5'.tagB] at this; exact r5'.own (Prod.mk.inj this).1
    refine call_of (doing_yes o _ 97 #[] #[ptr h.size, ptr h1.size, ptr h2.size] h5 r5' h0 (R := fun v h' => v = .tuple #[] ∧ Acted k (lay t h.size (0, 0)) h5 b ((D.doing (D.appendE (z : Int) bs)).1.setZ (z : Int) { D.at_ (z : Int) with pages := (D.at_ (z : Int)).pages ++ [bs] }) h') fun h6 r6 u6 z6 => ?_) ?_
    · have hz6 : z < (D.doing (D.appendE (z : Int) bs)).1.zs.length := by rw [doing_zs]; exact hz
      have at6 : (D.doing (D.appendE (z : Int) bs)).1.at_ (z : Int) = D.at_ (z : Int) := by rw [at_of hz6, at_of hz]; simp only [doing_zs]
      have := appendF_ok (o.doing _) h.size h1.size h2.size _ _ _ ba bc bs h6 r6 hz6 hl ((b1.new n35).upd u6 (ne _ (Nat.le_refl _))) ((b2.new n35).upd u6 (ne _ (by omega))) ((b3.new n35).upd u6 (ne _ (by omega))) (by rw [hn _ (Nat.le_refl _)]) (by rw [hn _ (by omega)]) (fun i x hx => ?_)
      · rw [at6] at this
        refine this.mono fun v h' ⟨hv, t', r', f'⟩ => ⟨hv, t', r', ?_⟩
        exact (Fr.upd u6 fun hh => hh (by rw [r5'.tagB])).trans f'
      · obtain ⟨g, o', eq, hg, hc⟩ := im.ar i x hx
        have hb := im.im (fun e => by subst e; simp at hx) g (by rw [eq]; rfl)
        refine ⟨g, o', eq, by have := n05.size; omega, ?_⟩
        by_cases eb : g = b
        · have := r5'.tagB
          rw [← eb, lay_lt hg] at this
          rw [this] at hb; exact (r5'.own hb).elim
        · rw [cellH_same (u6.same g (by have := n05.size; omega) eb), cellH_same (n05.same g hg)]; exact hc
    rintro v h7 ⟨rfl, u, hu, ac⟩
    exact ⟨.nilIface, rfl, errV_if 0, br_f rfl ⟨rfl, ac.before n05⟩⟩
  · have ea : D.append n bs = ((D.doing (D.appendE n bs)).1, 0, (D.doing (D.appendE n bs)).2) := by unfold Dev.append; simp only []; rw [if_pos h0]
    rw [ea]
    refine call_of (doing_no_ok _ _ h5 r5 h0) ?_
    rintro v h6 ⟨rfl, r6, u6⟩
    exact ⟨errV (D.doing (D.appendE n bs)).2, rfl, errV_if _, br_t (by rw [errV_nil]; simp [h0]) ⟨rfl, (Acted.of_upd r5 r6 u6).before n05⟩⟩
theorem readE {D : Dev} {n p : Int} (hd : D.down = false) (h1 : ¬ (D.there n = false ∨ p < 0 ∨ p ≥ D.P)) : D.read n p = if p ≥ (D.at_ n).pages.length then ([], 8) else if ((D.at_ n).pages.getD p.toNat []).length = 0 then ([], 6) else ((D.at_ n).pages.getD p.toNat [], 0) := by
  unfold Dev.read; rw [if_neg (by simp [hd]), if_neg h1]
theorem read_ok {k b : Nat} {t : Tags} {D : Dev} (o : DevOk D) (n p : Int) (h : Heap) (r : PRep k t h b D) :
    CallsH Tryd.prog 33 [ptr b, .int .i64 n, .int .i64 p] h fun v h' => ∃ a c, v = .tuple #[.slice a (D.read n p).1.length c, errV (D.read n p).2] ∧ Got .u8 5 h h' a c (D.read n p).1 := by
  refine fun_ok hm' Tryd.func33 (by kernel_rfl) (F33_eq _ _ _ _ h) ?_
  unfold F33
  refine call_of (at_ok n h r) ?_
  rintro v h1 ⟨q, rfl, n1, a, c, z, c0, c1, c2, hp⟩
  refine ⟨some q, rfl, ?_⟩
  have r1 := r.new n1
  have r1' := r1
  obtain ⟨za, d, arr, r2⟩ := r1'
  refine cut_q (ts := []) (fun _ h' => h' = h1 ∧ ∃ i : Nat, p = i ∧ i < (D.at_ n).pages.length ∧ ((D.at_ n).pages.getD i []).length ≠ 0 ∧ D.read n p = ((D.at_ n).pages.getD i [], 0)) ?_ ?_
  rotate_left
  · intro K hK
    refine ld_of (c := .bool) D.down r2.cd (br_of (fun hd => ?_) fun hd => ?_)
    · have e : D.read n p = ([], 7) := by unfold Dev.read; rw [if_pos hd]
      rw [e]; exact ⟨none, 0, rfl, Got.nil _ _ n1⟩
    refine cut_q (ts := [.sc .bool]) (fun (s : Bool) h' => s = decide (D.there n = false ∨ p < 0 ∨ p ≥ D.P) ∧ h' = h1) ?_ ?_
    · rintro s h' ⟨rfl, hh⟩ _; subst h'
      refine br_of (fun hs => ?_) fun hs => ?_
      · have e : D.read n p = ([], 1) := by unfold Dev.read; rw [if_neg (by simp [hd]), if_pos (of_decide_eq_true hs)]
        rw [e]; exact ⟨none, 0, rfl, Got.nil _ _ n1⟩
      have hs := of_decide_eq_false hs
      have e := readE hd hs
      refine ptr_of (ld_of (c := .slice) (a, (D.at_ n).pages.length, c) c2 (br_of (fun h0 => ?_) fun h0 => ?_))
      · rw [e, if_pos (of_decide_eq_true h0)]; exact ⟨none, 0, rfl, Got.nil _ _ n1⟩
      have h0 := of_decide_eq_false h0
      rw [if_neg h0] at e
      obtain ⟨i, rfl⟩ := Int.eq_ofNat_of_zero_le (show 0 ≤ p by omega)
      have hi : i < (D.at_ n).pages.length := by simp only [] at h0; omega
      rw [Int.toNat_natCast] at e
      have eg : (D.at_ n).pages.getD i [] = (D.at_ n).pages[i] := by simp [List.getD_eq_getElem?_getD, List.getElem?_eq_getElem hi]
      obtain ⟨a', c', im, ld⟩ := hp.ld hi
      refine ptr_of (ld_of (c := .slice) (a, (D.at_ n).pages.length, c) c2 (ld hi (br_of (fun h3 => ?_) fun h3 => hK () _ ⟨rfl, i, rfl, hi, ?_, ?_⟩)))
      · have h3 : ((D.at_ n).pages.getD i []).length = 0 := by rw [eg]; simp only [beq_iff_eq] at h3; omega
        rw [e, if_pos h3]; exact ⟨none, 0, rfl, Got.nil _ _ n1⟩
      · rw [eg]; simp only [beq_eq_false_iff_ne, ne_eq] at h3; omega
      · rw [e, if_neg (by rw [eg]; simp only [beq_eq_false_iff_ne, ne_eq] at h3; omega)]
    · intro K2 hK2
      refine call_of (there_ok n h1 r1) ?_
      rintro v h' ⟨rfl, hh⟩; subst h'
      refine ⟨D.there n, rfl, ?_⟩
      cases ht : D.there n with
      | false => exact br_t rfl (hK2 _ _ ⟨by simp [ht], rfl⟩)
      | true =>
        refine br_f rfl (br_of (fun h0 => hK2 _ _ ⟨?_, rfl⟩) fun h0 => ld_of (c := .int .i64) (D.P : Int) r2.cP (hK2 _ _ ⟨?_, rfl⟩))
        · have h0 := of_decide_eq_true h0
          symm; exact decide_eq_true (.inr (.inl h0))
        · have h0 := of_decide_eq_false h0
          rw [Bool.eq_iff_iff]; simp [ht]; omega
  rintro _ h' ⟨hh, i, rfl, hi, hne, e⟩ _; subst h'
  have eg : (D.at_ n).pages.getD i [] = (D.at_ n).pages[i] := by simp [List.getD_eq_getElem?_getD, List.getElem?_eq_getElem hi]
  rw [e, eg]
  obtain ⟨a', c', im, ld⟩ := hp.ld hi
  have hl : (D.at_ n).pages[i].length ≤ 100000 := by
    rcases ((o.at_ n).page _ (List.getElem_mem hi)).2 with h33 | h0
    · omega
    · rw [h0]; simp
  refine ptr_of (ld_of (c := .slice) (a, (D.at_ n).pages.length, c) c2 (ld hi (call_of (Head.clone_ok a' c' _ _ rfl h1 im.ar hl) ?_)))
  rintro v h2 ⟨a2, c2', rfl, g2⟩
  exact ⟨(a2, (D.at_ n).pages[i].length, c2'), rfl, a2, c2', rfl, g2.before n1⟩
/-- A zone of the program's device is another one: three cells are laid. -/
theorem resetF_ok {k b za c z : Nat} {t : Tags} {arr : Array Value} {D : Dev} (p1 p2 : Nat) (T1 T2 : TypeId) (h : Heap) (r : PD k t h b za c arr D) (hz : z < D.zs.length) (b1 : Blk h p1 #[ptr b] T1) (b2 : Blk h p2 #[.int .i64 (z : Int)] T2) :
    CallsH Tryd.prog 98 [ptr p1, ptr p2] h fun v h' => v = .tuple #[] ∧ Acted k t h b (D.setZ (z : Int) Zn.bare) h' := by
  refine fun_ok hm' Tryd.func98 (by kernel_rfl) (F98_eq _ _ _ h) ?_
  unfold F98
  have hk := r.own
  refine ld_of (c := .ptr) (some ⟨b, 0, none⟩) (by rw [cellH_blk b1]; rfl) (ptr_of (ld_of (c := .slice) (some ⟨za, 0, none⟩, D.zs.length, c) r.cz (ld_of (c := .int .i64) (z : Int) (by rw [cellH_blk b2]; rfl) (ptr_of (ix_of hz ?_)))))
  have hsz := r.size; have hle := r.le
  rw [add_mk, Int.toNat_natCast, Nat.zero_add]
  refine stL_blk r.zblk (by simp; omega) fun h1 b3 o3 => ⟨rfl, t, ⟨za, c, setsA arr (z * 3) [.int .i64 0, .bool false, .slice none 0 0], ?_⟩, Fr.upd o3.upd fun hn => hn (by rw [r.tagZ])⟩
  have hS : ∀ q : Nat × Nat, q.1 = 0 → q ≠ (k, 1) := fun q hq e => by subst e; exact hk hq
  have f : Fr (fun q => q ≠ (k, 1)) t h t h1 := Fr.upd o3.upd fun hn => hn r.tagZ
  have hin : ∀ j, j < 3 → (setsA arr (z * 3) [Value.int .i64 0, .bool false, .slice none 0 0])[z * 3 + j]? = ([Value.int .i64 0, .bool false, .slice none 0 0] : List Value)[j]? := fun j hj => by
    rw [setsA_get, if_pos ⟨by omega, by simp; omega, by omega⟩]; congr 1; omega
  have := r.put (Z := Zn.bare) f hS (tagne (by omega)) (fun j hj => tagne (by omega)) b3 (setsA_size ..) (fun i hi => by rw [setsA_get, if_neg (by simp; omega)]) ⟨none, 0, hin, PRow.nil _ _ _ _⟩
  unfold Dev.setZ; rw [Int.toNat_natCast]; exact this
theorem finishF_ok {k b za c z : Nat} {t : Tags} {arr : Array Value} {D : Dev} (p1 p2 : Nat) (T1 T2 : TypeId) (h : Heap) (r : PD k t h b za c arr D) (hz : z < D.zs.length) (b1 : Blk h p1 #[ptr b] T1) (b2 : Blk h p2 #[.int .i64 (z : Int)] T2) :
    CallsH Tryd.prog 99 [ptr p1, ptr p2] h fun v h' => v = .tuple #[] ∧ Acted k t h b (D.setZ (z : Int) { D.at_ (z : Int) with fin := true }) h' := by
  refine fun_ok hm' Tryd.func99 (by kernel_rfl) (F99_eq _ _ _ h) ?_
  unfold F99
  have hk := r.own
  obtain ⟨a, d, hp, c0, c1, c2⟩ := r.zP hz
  refine ld_of (c := .ptr) (some ⟨b, 0, none⟩) (by rw [cellH_blk b1]; rfl) (ptr_of (ld_of (c := .slice) (some ⟨za, 0, none⟩, D.zs.length, c) r.cz (ld_of (c := .int .i64) (z : Int) (by rw [cellH_blk b2]; rfl) (ptr_of (ix_of hz ?_)))))
  have hsz := r.size; have hle := r.le
  rw [add_mk, add_mk, add_mk, Int.toNat_natCast, Nat.zero_add, Nat.add_zero]
  refine st_blk r.zblk (by omega) fun h1 b3 o3 => ⟨rfl, t, ⟨za, c, arr.setIfInBounds (z * 3 + 1) (.bool true), ?_⟩, Fr.upd o3.upd fun hn => hn (by rw [r.tagZ])⟩
  have hS : ∀ q : Nat × Nat, q.1 = 0 → q ≠ (k, 1) := fun q hq e => by subst e; exact hk hq
  have f : Fr (fun q => q ≠ (k, 1)) t h t h1 := Fr.upd o3.upd fun hn => hn r.tagZ
  obtain ⟨q1, q2, q3, q4⟩ := set3 (arr := arr) (z := z) (o := 1) (n := z * 3 + 1) (v := .bool true) (by omega) (by omega) rfl
  have := r.put (Z := { D.zs[z] with fin := true }) f hS (tagne (by omega)) (fun j hj => tagne (by omega)) b3 q1 q2 ⟨a, d, fun j hj => ?_, hp.fr f hS (tagne (by omega))⟩
  · rw [at_of hz]; unfold Dev.setZ; rw [Int.toNat_natCast]; exact this
  · match j, hj with
    | 0, _ => rw [q4 0 (by omega) (by omega)]; exact c0
    | 1, _ => rw [q3]; rfl
    | 2, _ => rw [q4 2 (by omega) (by omega)]; exact c2
theorem reset_ok {k b : Nat} {t : Tags} {D : Dev} (o : DevOk D) (n : Int) (h : Heap) (r : PRep k t h b D) :
    CallsH Tryd.prog 67 [ptr b, .int .i64 n] h fun v h' => v = errV (D.reset n).2 ∧ Acted k t h b (D.reset n).1 h' := by
  refine fun_ok hm' Tryd.func67 (by kernel_rfl) (F67_eq _ _ _ h) ?_
  unfold F67
  refine new_of fun h1 b1 n1 s1 => new_of fun h2 b2 n2 s2 => ?_
  have n02 := n1.trans n2
  have b1 := b1.new n2
  have r2 := r.lay n02
  have e1 : cellH h2 ⟨h.size, 0, none⟩ = some (ptr b) := by rw [cellH_blk b1]; rfl
  refine ld_of (c := .ptr) (some ⟨b, 0, none⟩) e1 (ld_of (c := .int .i64) n (by rw [cellH_blk b2]; rfl) (call_of (there_ok n h2 r2) ?_))
  rintro v h' ⟨rfl, hh⟩; subst h'
  refine ⟨D.there n, rfl, ?_⟩
  have no : ∀ e : Int, D.resetE n = e → (D.doing e).2 ≠ 0 → CallsH Tryd.prog 82 [ptr b, .int .i64 e, .func (.func 98) #[] #[ptr h.size, ptr h1.size]] h2 fun v h' => v = errV (D.reset n).2 ∧ Acted k t h b (D.reset n).1 h' := by
    intro e he hne
    have er : D.reset n = D.doing e := by unfold Dev.reset; rw [he]; simp only []; rw [if_pos hne]
    refine (doing_no_ok e _ h2 r2 hne).mono ?_
    rintro v h3 ⟨rfl, r3, u3⟩
    rw [er]; exact ⟨rfl, (Acted.of_upd r2 r3 u3).before n02⟩
  cases ht : D.there n with
  | false =>
    have he : D.resetE n = 1 := by unfold Dev.resetE; rw [if_pos ht]
    refine br_t rfl (ld_of (c := .ptr) (some ⟨b, 0, none⟩) e1 (call_of (no 1 he (doing_no (by decide))) ?_))
    rintro v h3 hv
    exact ⟨v, rfl, hv⟩
  | true =>
    have he : D.resetE n = 0 := by unfold Dev.resetE; rw [if_neg (by simp [ht])]
    refine br_f rfl (ld_of (c := .ptr) (some ⟨b, 0, none⟩) e1 ?_)
    by_cases h0 : (D.doing 0).2 = 0
    · have er : D.reset n = ((D.doing 0).1.setZ n Zn.bare, 0) := by unfold Dev.reset; rw [he]; simp only []; rw [if_neg (by simp [h0])]
      obtain ⟨z, rfl, hz⟩ := there_nat ht
      obtain ⟨za, c, arr, r2'⟩ := r2
      have hn := fun (g : Nat) (hg : h.size ≤ g) => (lay_ge (t := t) (p := ((0, 0) : Nat × Nat)) hg)
      have sz1 := n1.size
      have ne : ∀ g : Nat, h.size ≤ g → g ≠ b := fun g hg e => by have := hn g hg; rw [e, r2'.tagB] at this; exact r2'.own (Prod.mk.inj this).1
      refine call_of (doing_yes o _ 98 #[] #[ptr h.size, ptr h1.size] h2 r2' h0 (R := fun v h' => v = .tuple #[] ∧ Acted k (lay t h.size (0, 0)) h2 b ((D.doing 0).1.setZ (z : Int) Zn.bare) h') fun h6 r6 u6 z6 => ?_) ?_
      · refine (resetF_ok h.size h1.size _ _ h6 r6 (by rw [doing_zs]; exact hz) (b1.upd u6 (ne _ (Nat.le_refl _))) (b2.upd u6 (ne _ (by omega)))).mono ?_
        rintro v h' ⟨hv, t', r', f'⟩
        exact ⟨hv, t', r', (Fr.upd u6 fun hh => hh (by rw [r2'.tagB])).trans f'⟩
      rintro v h7 ⟨rfl, u, hu, ac⟩
      rw [er]
      exact ⟨.nilIface, rfl, rfl, ac.before n02⟩
    · refine call_of (no 0 he h0) ?_
      rintro v h3 hv
      exact ⟨v, rfl, hv⟩
theorem finish_ok {k b : Nat} {t : Tags} {D : Dev} (o : DevOk D) (n : Int) (h : Heap) (r : PRep k t h b D) :
    CallsH Tryd.prog 68 [ptr b, .int .i64 n] h fun v h' => v = errV (D.finish n).2 ∧ Acted k t h b (D.finish n).1 h' := by
  refine fun_ok hm' Tryd.func68 (by kernel_rfl) (F68_eq _ _ _ h) ?_
  unfold F68
  refine new_of fun h1 b1 n1 s1 => new_of fun h2 b2 n2 s2 => ?_
  have n02 := n1.trans n2
  have b1 := b1.new n2
  have r2 := r.lay n02
  have e1 : ∀ {h' : Heap}, New h2 h' → cellH h' ⟨h.size, 0, none⟩ = some (ptr b) := fun n => by rw [cellH_blk (b1.new n)]; rfl
  have e2 : ∀ {h' : Heap}, New h2 h' → cellH h' ⟨h1.size, 0, none⟩ = some (.int .i64 n) := fun n => by rw [cellH_blk (b2.new n)]; rfl
  refine ld_of (c := .ptr) (some ⟨b, 0, none⟩) (e1 (New.refl _)) (ld_of (c := .int .i64) n (e2 (New.refl _)) (call_of (there_ok n h2 r2) ?_))
  rintro v h' ⟨rfl, hh⟩; subst h'
  refine ⟨D.there n, rfl, ?_⟩
  have no : ∀ (h3 : Heap), New h2 h3 → ∀ e : Int, D.finishE n = e → (D.doing e).2 ≠ 0 → CallsH Tryd.prog 82 [ptr b, .int .i64 e, .func (.func 99) #[] #[ptr h.size, ptr h1.size]] h3 fun v h' => v = errV (D.finish n).2 ∧ Acted k t h b (D.finish n).1 h' := by
    intro h3 n3 e he hne
    have er : D.finish n = D.doing e := by unfold Dev.finish; rw [he]; simp only []; rw [if_pos hne]
    refine (doing_no_ok e _ h3 (r2.new n3) hne).mono ?_
    rintro v h4 ⟨rfl, r4, u4⟩
    rw [er]; exact ⟨rfl, (Acted.of_upd (r2.new n3) r4 u4).before (n02.trans n3)⟩
  cases ht : D.there n with
  | false =>
    have he : D.finishE n = 1 := by unfold Dev.finishE; rw [if_pos ht]
    refine br_t rfl (ld_of (c := .ptr) (some ⟨b, 0, none⟩) (e1 (New.refl _)) (call_of (no h2 (New.refl _) 1 he (doing_no (by decide))) ?_))
    rintro v h3 hv
    exact ⟨v, rfl, hv⟩
  | true =>
    refine br_f rfl (ld_of (c := .ptr) (some ⟨b, 0, none⟩) (e1 (New.refl _)) (ld_of (c := .int .i64) n (e2 (New.refl _)) (call_of (state_ok n h2 r2) ?_)))
    rintro v h3 ⟨rfl, n3⟩
    refine ⟨D.state n, rfl, br_of (fun hs => ?_) fun hs => ?_⟩
    · have he : D.finishE n = 11 := by unfold Dev.finishE; rw [if_neg (by simp [ht]), if_pos (by simpa using hs)]
      refine ld_of (c := .ptr) (some ⟨b, 0, none⟩) (e1 n3) (call_of (no h3 n3 11 he (doing_no (by decide))) ?_)
      rintro v h4 hv
      exact ⟨v, rfl, hv⟩
    · have he : D.finishE n = 0 := by unfold Dev.finishE; rw [if_neg (by simp [ht]), if_neg (by simpa using hs)]
      refine ld_of (c := .ptr) (some ⟨b, 0, none⟩) (e1 n3) ?_
      by_cases h0 : (D.doing 0).2 = 0
      · have er : D.finish n = ((D.doing 0).1.setZ n { D.at_ n with fin := true }, 0) := by unfold Dev.finish; rw [he]; simp only []; rw [if_neg (by simp [h0])]
        obtain ⟨z, rfl, hz⟩ := there_nat ht
        have r3 := r2.new n3
        obtain ⟨za, c, arr, r3'⟩ := r3
        have hn := fun (g : Nat) (hg : h.size ≤ g) => (lay_ge (t := t) (p := ((0, 0) : Nat × Nat)) hg)
        have sz1 := n1.size
        have ne : ∀ g : Nat, h.size ≤ g → g ≠ b := fun g hg e => by have := hn g hg; rw [e, r3'.tagB] at this; exact r3'.own (Prod.mk.inj this).1
        refine call_of (doing_yes o _ 99 #[] #[ptr h.size, ptr h1.size] h3 r3' h0 (R := fun v h' => v = .tuple #[] ∧ Acted k (lay t h.size (0, 0)) h3 b ((D.doing 0).1.setZ (z : Int) { D.at_ (z : Int) with fin := true }) h') fun h6 r6 u6 z6 => ?_) ?_
        · have hz6 : z < (D.doing 0).1.zs.length := by rw [doing_zs]; exact hz
          have at6 : (D.doing 0).1.at_ (z : Int) = D.at_ (z : Int) := by rw [at_of hz6, at_of hz]; simp only [doing_zs]
          have := finishF_ok h.size h1.size _ _ h6 r6 hz6 ((b1.new n3).upd u6 (ne _ (Nat.le_refl _))) ((b2.new n3).upd u6 (ne _ (by omega)))
          rw [at6] at this
          refine this.mono ?_
          rintro v h' ⟨hv, t', r', f'⟩
          exact ⟨hv, t', r', (Fr.upd u6 fun hh => hh (by rw [r3'.tagB])).trans f'⟩
        rintro v h7 ⟨rfl, u, hu, ac⟩
        rw [er]
        exact ⟨.nilIface, rfl, rfl, ac.before (n02.trans n3)⟩
      · refine call_of (no h3 n3 0 he h0) ?_
        rintro v h4 hv
        exact ⟨v, rfl, hv⟩
/- What goes through all zones. -/
def own1 (k : Nat) : Nat × Nat → Prop := fun q => q.1 ≠ k
/-- One cell of a zone is told anew: which one, by its place. -/
theorem PD.setSure {k b za c z : Nat} {t : Tags} {h h' : Heap} {arr : Array Value} {D : Dev} (r : PD k t h b za c arr D) (hz : z < D.zs.length) (u : Nat) (hb : Blk h' za (arr.setIfInBounds (z * 3) (.int .i64 (u : Int))) 140) (o : Only za h h') :
    PD k t h' b za c (arr.setIfInBounds (z * 3) (.int .i64 (u : Int))) { D with zs := D.zs.set z { D.zs[z] with sure := u } } := by
  obtain ⟨a, d, hp, c0, c1, c2⟩ := r.zP hz
  have hk := r.own
  have hsz := r.size; have hle := r.le
  have hS : ∀ q : Nat × Nat, q.1 = 0 → q ≠ (k, 1) := fun q hq e => by subst e; exact hk hq
  have f : Fr (fun q => q ≠ (k, 1)) t h t h' := Fr.upd o.upd fun hn => hn r.tagZ
  obtain ⟨q1, q2, q3, q4⟩ := set3 (arr := arr) (z := z) (o := 0) (n := z * 3) (v := .int .i64 (u : Int)) (by omega) (by omega) rfl
  refine r.put f hS (tagne (by omega)) (fun j hj => tagne (by omega)) hb q1 q2 ⟨a, d, fun j hj => ?_, hp.fr f hS (tagne (by omega))⟩
  match j, hj with
  | 0, _ => exact q3
  | 1, _ => rw [q4 1 (by omega) (by omega)]; exact c1
  | 2, _ => rw [q4 2 (by omega) (by omega)]; exact c2
theorem settle_ok {k b : Nat} {t : Tags} {D : Dev} (o : DevOk D) (h : Heap) (r : PRep k t h b D) : CallsH Tryd.prog 81 [ptr b] h fun v h' => v = .tuple #[] ∧ PRep k t h' b D.settle ∧ Fr (own1 k) t h t h' := by
  refine fun_ok hm' Tryd.func81 (by kernel_rfl) (F81_eq _ _ h) ?_
  unfold F81
  obtain ⟨za, c, arr, r⟩ := r
  have hzn := o.zones
  refine ld_of (c := .slice) (some ⟨za, 0, none⟩, D.zs.length, c) r.cz ?_
  refine ⟨fun (s : Int) h' => ∃ (i : Nat) (arr' : Array Value), s = i ∧ i ≤ D.zs.length ∧ PD k t h' b za c arr' { D with zs := upto (fun _ Z => Z.settle) i D.zs } ∧ Fr (own1 k) t h t h', fun (s : Int) _ => ((D.zs.length : Int) - s).toNat, ⟨0, arr, rfl, Nat.zero_le _, by rw [upto_zero]; exact r, Fr.refl _ _ _⟩, ?_⟩
  rintro s j h1 ⟨i, arr', rfl, hi, r1, f1⟩
  have hlen : (upto (fun _ (Z : Zn) => Z.settle) i D.zs).length = D.zs.length := upto_len ..
  refine br_of (fun hlt => ?_) (fun hlt => ?_)
  · have hlt : i < D.zs.length := by have := of_decide_eq_true hlt; simp only [] at this; omega
    have hlt' : i < (upto (fun _ (Z : Zn) => Z.settle) i D.zs).length := by omega
    have hz : (upto (fun _ (Z : Zn) => Z.settle) i D.zs)[i] = D.zs[i] := by
      have := upto_get (fun _ (Z : Zn) => Z.settle) D.zs (Nat.le_refl i)
      rw [List.getElem?_eq_getElem hlt', List.getElem?_eq_getElem hlt] at this
      exact Option.some.inj this
    obtain ⟨a, d, hp, c0, c1, c2⟩ := r1.zP (z := i) hlt'
    simp only [hz] at hp c0 c1 c2
    have hsz := r1.size; have hle := r.le
    refine ld_of (c := .slice) (some ⟨za, 0, none⟩, D.zs.length, c) (by have := r1.cz; simp only [hlen] at this; exact this) (ld_of (c := .slice) (some ⟨za, 0, none⟩, D.zs.length, c) (by have := r1.cz; simp only [hlen] at this; exact this) (ptr_of (ix_of hlt (ld_of (c := .slice) (a, D.zs[i].pages.length, d) ?_ (ptr_of (ix_of hlt ?_))))))
    · rw [add_mk, add_mk, Int.toNat_natCast]; exact r1.cell c2 _ (by omega)
    rw [add_mk, add_mk, add_mk, Int.toNat_natCast, Nat.zero_add, Nat.add_zero]
    refine st_blk r1.zblk (by omega) fun h2 b2 o2 => ?_
    have r2 := r1.setSure (z := i) hlt' _ b2 o2
    simp only [hz] at r2
    have e : (upto (fun _ (Z : Zn) => Z.settle) i D.zs).set i { D.zs[i] with sure := D.zs[i].pages.length } = upto (fun _ (Z : Zn) => Z.settle) (i + 1) D.zs := upto_set (fun _ (Z : Zn) => Z.settle) D.zs (List.getElem?_eq_getElem hlt)
    rw [e] at r2
    rw [wr64 (by omega) (by omega)]
    exact ⟨⟨i + 1, _, rfl, hlt, r2, f1.trans (Fr.upd o2.upd fun hn => hn (by rw [r1.tagZ]))⟩, (by first | omega | (dsimp only; omega) | (simp only []; omega))⟩
  · have hi : i = D.zs.length := by have := of_decide_eq_false hlt; simp only [] at this; omega
    subst hi
    refine ⟨rfl, ⟨za, c, arr', ?_⟩, f1⟩
    have e : upto (fun _ (Z : Zn) => Z.settle) D.zs.length D.zs = D.zs.map Zn.settle := by
      rw [upto_full]; apply List.ext_getElem?; intro j; simp [List.getElem?_mapIdx]
    rw [e] at r1; exact r1
theorem flush_ok {k b : Nat} {t : Tags} {D : Dev} (o : DevOk D) (h : Heap) (r : PRep k t h b D) :
    CallsH Tryd.prog 38 [ptr b] h fun v h' => v = errV D.flush.2 ∧ Acted k t h b D.flush.1 h' := by
  refine fun_ok hm' Tryd.func38 (by kernel_rfl) (F38_eq _ _ h) ?_
  unfold F38
  by_cases h0 : (D.doing 0).2 = 0
  · have er : D.flush = ((D.doing 0).1.settle, 0) := by unfold Dev.flush; simp only []; rw [if_neg (by simp [h0])]
    obtain ⟨za, c, arr, r'⟩ := r
    refine call_of (doing_yes o _ 81 #[ptr b] #[] h r' h0 (R := fun v h' => v = .tuple #[] ∧ Acted k t h b (D.doing 0).1.settle h') fun h6 r6 u6 z6 => ?_) ?_
    · refine (settle_ok (o.doing 0) h6 ⟨za, c, arr, r6⟩).mono ?_
      rintro v h7 ⟨rfl, r7, f7⟩
      exact ⟨rfl, t, r7, (Fr.upd u6 fun hh => hh (by rw [r'.tagB])).trans f7⟩
    rintro v h7 ⟨rfl, u, hu, ac⟩
    rw [er]
    exact ⟨.nilIface, rfl, rfl, ac⟩
  · have er : D.flush = D.doing 0 := by unfold Dev.flush; simp only []; rw [if_pos h0]
    refine call_of (doing_no_ok 0 _ h r h0) ?_
    rintro v h3 ⟨rfl, r3, u3⟩
    rw [er]
    exact ⟨_, rfl, rfl, Acted.of_upd r r3 u3⟩
/-- What a crash leaves of a zone, ahead of its being sure. -/
def crash1 (keep : List Int) (tear : List Bool) (i : Nat) (Z : Zn) : Zn := { Z with pages := Z.pages.take (Z.stay keep i) ++ (if Z.torn keep tear i = true then [[]] else []) }
theorem crash1_settle (keep : List Int) (tear : List Bool) (D : Dev) : ({ D with zs := D.zs.mapIdx (crash1 keep tear) } : Dev).settle = { D with zs := D.zs.mapIdx fun i Z => Z.crash keep tear i } := by
  unfold Dev.settle
  congr 1
  apply List.ext_getElem?; intro j
  simp only [List.getElem?_map, List.getElem?_mapIdx, Option.map_map]
  rfl
theorem crash1_ok {P : Nat} {Z : Zn} (o : ZnOk P Z) (keep : List Int) (tear : List Bool) (i : Nat) : ZnOk P (crash1 keep tear i Z) := by
  have c := o.crash keep tear i
  have hs := stay_le o keep i
  refine ⟨?_, c.most, c.page⟩
  show Z.sure ≤ (Z.pages.take (Z.stay keep i) ++ _).length
  rw [List.length_append, List.length_take]; omega
theorem crash1_len {P : Nat} {Z : Zn} (o : ZnOk P Z) (keep : List Int) (tear : List Bool) (i : Nat) : (crash1 keep tear i Z).pages.length ≤ P := (o.crash keep tear i).most
/-- Rows of bools that came in. -/
def Bo (h : Heap) (a : Option Addr) (xs : List Bool) : Prop := ∀ (i : Nat) (x : Bool), xs[i]? = some x → ∃ b o, a = some ⟨b, o, none⟩ ∧ b < h.size ∧ cellH h ⟨b, o + i, none⟩ = some (.bool x)
/-- Rows that stay, whatever owner k does. -/
structure Ins (t : Tags) (h : Heap) (ka : Option Addr) (keep : List Int) (ta : Option Addr) (tear : List Bool) : Prop where
  ak : Ar .i64 h ka keep
  bt : Bo h ta tear
  kt : keep ≠ [] → ∀ g, blkOf ka = some g → (t g).1 = 0
  tt : tear ≠ [] → ∀ g, blkOf ta = some g → (t g).1 = 0
theorem Ins.fr {S : Nat × Nat → Prop} {t t' : Tags} {h h' : Heap} {ka ta : Option Addr} {keep : List Int} {tear : List Bool} (r : Ins t h ka keep ta tear) (s : Fr S t h t' h') (hS : ∀ p : Nat × Nat, p.1 = 0 → S p) : Ins t' h' ka keep ta tear := by
  have i := (Im.mk r.ak r.kt).fr s hS
  refine ⟨i.ar, fun j x hx => ?_, i.im, fun hx g hg => ?_⟩
  · obtain ⟨b, o, e, hp, hc⟩ := r.bt j x hx
    have h0 := r.tt (fun e => by subst e; simp at hx) b (by rw [e]; rfl)
    exact ⟨b, o, e, Nat.lt_of_lt_of_le hp s.size, by rw [cellH_same (s.same b hp (hS _ h0))]; exact hc⟩
  · cases tear with
    | nil => exact (hx rfl).elim
    | cons x xs =>
      obtain ⟨b, o, e, hp, _⟩ := r.bt 0 x rfl
      have h0 := r.tt hx g hg
      subst e; injection hg with hg; change b = g at hg; subst hg
      rw [s.tags b hp]; exact h0
theorem crash_ok {k b : Nat} {t : Tags} {D : Dev} (o : DevOk D) (ka : Option Addr) (kc : Nat) (keep : List Int) (ta : Option Addr) (tc : Nat) (tear : List Bool) (h : Heap) (r : PRep k t h b D) (ins : Ins t h ka keep ta tear) (hw : ∀ x ∈ keep, -9223372036854775808 ≤ x ∧ x ≤ 9223372036854775807) :
    CallsH Tryd.prog 37 [ptr b, .slice ka keep.length kc, .slice ta tear.length tc] h fun v h' => v = .tuple #[] ∧ Acted k t h b (D.crash keep tear) h' := by
  refine fun_ok hm' Tryd.func37 (by kernel_rfl) (F37_eq _ _ _ _ _ _ _ _ h) ?_
  unfold F37
  obtain ⟨za, c, arr, r⟩ := r
  have hzn := o.zones
  have hk := r.own
  have own0 : ∀ p : Nat × Nat, p.1 = 0 → own1 k p := fun p hp e => hk (by rw [← e]; exact hp)
  refine ld_of (c := .slice) (some ⟨za, 0, none⟩, D.zs.length, c) r.cz ?_
  refine ⟨fun (s : Int) h' => ∃ (i : Nat) (arr' : Array Value) (t' : Tags), s = i ∧ i ≤ D.zs.length ∧ PD k t' h' b za c arr' { D with zs := upto (crash1 keep tear) i D.zs } ∧ Fr (own1 k) t h t' h', fun (s : Int) _ => ((D.zs.length : Int) - s).toNat, ⟨0, arr, t, rfl, Nat.zero_le _, by rw [upto_zero]; exact r, Fr.refl _ _ _⟩, ?_⟩
  rintro s j h1 ⟨i, arr', t1, rfl, hi, r1, f1⟩
  have hlen : (upto (crash1 keep tear) i D.zs).length = D.zs.length := upto_len ..
  have ins1 := ins.fr f1 own0
  refine br_of (fun hlt => ?_) (fun hlt => ?_)
  · have hlt : i < D.zs.length := by have := of_decide_eq_true hlt; simp only [] at this; omega
    have hlt' : i < (upto (crash1 keep tear) i D.zs).length := by omega
    have hz : (upto (crash1 keep tear) i D.zs)[i] = D.zs[i] := by
      have := upto_get (crash1 keep tear) D.zs (Nat.le_refl i)
      rw [List.getElem?_eq_getElem hlt', List.getElem?_eq_getElem hlt] at this
      exact Option.some.inj this
    obtain ⟨Z, hZ⟩ : ∃ Z, Z = D.zs[i] := ⟨_, rfl⟩
    have oZ : ZnOk D.P Z := by rw [hZ]; exact o.zone _ (List.getElem_mem hlt)
    have l16 : Z.pages.length ≤ 16 := by rw [hZ]; exact o.len hlt
    have hsure := oZ.sure
    have hst := stay_le oZ keep i
    obtain ⟨a, d, hp, c0, c1, c2⟩ := r1.zP (z := i) hlt'
    simp only [hz, ← hZ] at hp c0 c1 c2
    have hsz := r1.size; have hle := r.le
    have cs : cellH h1 (((⟨za, 0, none⟩ : Addr).add (Int.toNat (i : Int) * 3)).add 0 |>.add 0) = some (.int .i64 (Z.sure : Int)) := by rw [add_mk, add_mk, add_mk, Int.toNat_natCast]; exact r1.cell (j := 0) c0 _ (by omega)
    have cp : cellH h1 (((⟨za, 0, none⟩ : Addr).add (Int.toNat (i : Int) * 3)).add 2) = some (.slice a Z.pages.length d) := by rw [add_mk, add_mk, Int.toNat_natCast]; exact r1.cell c2 _ (by omega)
    refine ld_of (c := .slice) (some ⟨za, 0, none⟩, D.zs.length, c) (by have := r1.cz; simp only [hlen] at this; exact this) (ptr_of (ix_of hlt (ld_of (c := .int .i64) (Z.sure : Int) cs ?_)))
    refine cut_q (ts := [.sc (.int .i64)]) (fun (q : Int) h' => q = (Z.stay keep i : Int) ∧ h' = h1) ?_ ?_
    rotate_left
    · intro K hK
      refine br_of (fun h0 => ?_) fun h0 => ?_
      · have h0 : i < keep.length := by have := of_decide_eq_true h0; omega
        refine ix_ld ins1.ak h0 h0 (ld_of (c := .slice) (a, Z.pages.length, d) cp (ld_of (c := .int .i64) (Z.sure : Int) cs (hK _ _ ⟨?_, rfl⟩)))
        have es : Z.stay keep i = Z.sure + min keep[i].toNat (Z.pages.length - Z.sure) := by unfold Zn.stay; rw [List.getElem?_eq_getElem h0]
        rw [es, mm2_min, mm2_max]
        simp only []
        have hww := hw _ (List.getElem_mem h0)
        rw [wr64 (n := (Z.pages.length : Int) - (Z.sure : Int)) (by omega) (by omega), wr64 (by omega) (by omega)]
        omega
      · have h0 : keep.length ≤ i := by have := of_decide_eq_false h0; omega
        refine hK _ _ ⟨?_, rfl⟩
        unfold Zn.stay; rw [List.getElem?_eq_none h0]
    rintro q h' ⟨rfl, hh⟩ _; subst h'
    refine cut_q (ts := [.sc .bool]) (fun (q : Bool) h' => q = Z.torn keep tear i ∧ h' = h1) ?_ ?_
    rotate_left
    · intro K hK
      refine br_of (fun h0 => ?_) fun h0 => ?_
      · have h0 : i < tear.length := by have := of_decide_eq_true h0; omega
        obtain ⟨gb, go, eg, _, hc⟩ := ins1.bt i _ (List.getElem?_eq_getElem h0)
        subst eg
        have et : tear.getD i false = tear[i] := by simp [List.getD_eq_getElem?_getD, List.getElem?_eq_getElem h0]
        refine ptr_of (ix_of h0 (ld_of (c := .bool) tear[i] (by rw [add_mk, Int.toNat_natCast, Nat.mul_one]; exact hc) (br_of (fun hb => ld_of (c := .slice) (a, Z.pages.length, d) cp (hK _ _ ⟨?_, rfl⟩)) fun hb => hK _ _ ⟨?_, rfl⟩)))
        · unfold Zn.torn; rw [et, hb, Bool.true_and]; simp only []; rw [Bool.eq_iff_iff]; simp
        · unfold Zn.torn; rw [et, hb, Bool.false_and]
      · have h0 : tear.length ≤ i := by have := of_decide_eq_false h0; omega
        refine hK _ _ ⟨?_, rfl⟩
        unfold Zn.torn; rw [List.getD_eq_getElem?_getD, List.getElem?_eq_none h0]; rfl
    rintro q h' ⟨rfl, hh⟩ _; subst h'
    obtain ⟨m, hm⟩ : ∃ m, m = Z.stay keep i := ⟨_, rfl⟩
    rw [← hm] at hst ⊢
    have hd := hp.le
    refine ld_of (c := .slice) (a, Z.pages.length, d) cp ⟨⟨by omega, by omega, by omega, by simp only []; omega⟩, ?_⟩
    have esb : sliceBase a ((0 : Int)).toNat ((m : Int)).toNat 1 = a := sliceBase_zero a _
    have en : ((m : Int)).toNat - ((0 : Int)).toNat = m := by omega
    simp only [esb, en]
    rw [add_mk, add_mk, Int.toNat_natCast, Nat.zero_add]
    refine st_blk r1.zblk (by omega) fun h2 b2 o2 => ?_
    obtain ⟨q1, q2, q3, q4⟩ := set3 (arr := arr') (z := i) (o := 2) (n := i * 3 + 2) (v := .slice a m m) (by omega) (by omega) rfl
    have hS : ∀ q : Nat × Nat, q.1 = 0 → q ≠ (k, 1) := fun q hq e => by subst e; exact hk hq
    have f2 : Fr (fun q => q ≠ (k, 1)) t1 h1 t1 h2 := Fr.upd o2.upd fun hn => hn r1.tagZ
    have hml : (Z.pages.take m).length = m := by simp; omega
    have hpc := (hp.cut m hst.2).fr f2 hS (tagne (by omega))
    have r2 := r1.put (Z := { Z with pages := Z.pages.take m }) f2 hS (tagne (by omega)) (fun j hj => tagne (by omega)) b2 q1 q2 ⟨a, m, fun j hj => (by
      match j, hj with
      | 0, _ => rw [q4 0 (by omega) (by omega)]; exact c0
      | 1, _ => rw [q4 1 (by omega) (by omega)]; exact c1
      | 2, _ => rw [q3]; simp [LoP, hml]), hpc⟩
    have next : ∀ (x : Zn), crash1 keep tear i Z = x → (upto (crash1 keep tear) i D.zs).set i x = upto (crash1 keep tear) (i + 1) D.zs := by
      rintro x rfl
      rw [hZ]; exact upto_set (crash1 keep tear) D.zs (List.getElem?_eq_getElem hlt)
    have f02 : Fr (own1 k) t h t1 h2 := f1.trans (f2.mono fun q hq e => hq (by rw [e]))
    have wri : IntKind.wrap .i64 ((i : Int) + 1) = ((i + 1 : Nat) : Int) := by rw [wr64 (by omega) (by omega)]; omega
    rw [wri]
    refine br_of (fun ht => ?_) fun ht => ?_
    · have c2' : cellH h2 ⟨za, i * 3 + 2, none⟩ = some (.slice a m m) := by rw [cellH_blk b2]; exact q3
      refine ld_of (c := .slice) (a, m, m) c2' ?_
      have hpc' : PRow k i t1 h2 a m (Z.pages.take m) := hpc
      have := PRow.push (a' := none) (c' := 0) (p := []) hpc' hk (Im.nil ..) Cp.none (by omega) (F := fun b31 n32 c33 h34 => stW ⟨za, i * 3 + 2, none⟩ (.slice b31 n32 c33) (fun h35 => (∃ (i' : Nat) (arr' : Array Value) (t' : Tags), ((i + 1 : Nat) : Int) = i' ∧ i' ≤ D.zs.length ∧ PD k t' h35 b za c arr' { D with zs := upto (crash1 keep tear) i' D.zs } ∧ Fr (own1 k) t h t' h35) ∧ ((D.zs.length : Int) - ((i + 1 : Nat) : Int)).toNat < ((D.zs.length : Int) - (i : Int)).toNat) h34) ?_
      · rw [hml] at this; exact this
      intro a2 c2x h3 t3 f3 hp3
      have bZ := f3.blk b2 (by rw [r1.tagZ]; exact tagne (by omega))
      rw [hml]
      refine st_blk bZ (by rw [q1]; omega) fun h4 b4 o4 => ⟨⟨i + 1, (arr'.setIfInBounds (i * 3 + 2) (.slice a m m)).setIfInBounds (i * 3 + 2) (.slice a2 (m + 1) c2x), t3, rfl, hlt, ?_, ?_⟩, by omega⟩
      · obtain ⟨p1, p2, p3, p4⟩ := set3 (arr := arr'.setIfInBounds (i * 3 + 2) (.slice a m m)) (z := i) (o := 2) (n := i * 3 + 2) (v := .slice a2 (m + 1) c2x) (by omega) (by rw [q1]; omega) rfl
        have f4 : Fr (fun q => q ≠ (k, 1)) t3 h3 t3 h4 := Fr.upd o4.upd fun hn => hn (by rw [f3.tags za b2.lt]; exact r1.tagZ)
        have hS2 : ∀ q : Nat × Nat, q.1 = 0 → q ≠ (k, 2 + i) := fun q hq e => by subst e; exact hk hq
        have f24 : Fr (fun q => q ≠ (k, 1) ∧ q ≠ (k, 2 + i)) t1 h2 t3 h4 := (f3.mono fun _ hq => hq.2).trans (f4.mono fun _ hq => hq.1)
        have r4 := r2.put (Z := { Z with pages := Z.pages.take m ++ [[]] }) (z := i) f24 (fun q hq => ⟨hS q hq, hS2 q hq⟩) ⟨tagne (by omega), tagne (by omega)⟩ (fun j hj => ⟨tagne (by omega), tagne (by omega)⟩) b4 p1 p2 ⟨a2, c2x, fun j hj => (by
          match j, hj with
          | 0, _ => rw [p4 0 (by omega) (by omega), q4 0 (by omega) (by omega)]; exact c0
          | 1, _ => rw [p4 1 (by omega) (by omega), q4 1 (by omega) (by omega)]; exact c1
          | 2, _ => rw [p3]; simp [LoP, hml]), hp3.fr f4 hS (tagne (by omega))⟩
        simp only [List.set_set] at r4
        rw [next _ (by unfold crash1; rw [ht, if_pos rfl, ← hm])] at r4
        exact r4
      · refine f02.trans (Fr.trans (f3.mono fun q hq e => hq (by rw [e])) (Fr.upd o4.upd fun hn => hn (by rw [f3.tags za b2.lt, r1.tagZ])))
    · refine ⟨⟨i + 1, arr'.setIfInBounds (i * 3 + 2) (.slice a m m), t1, rfl, hlt, ?_, f02⟩, (by first | omega | (dsimp only; omega) | (simp only []; omega))⟩
      have r2' := r2
      rw [next _ (by unfold crash1; rw [ht, if_neg (by simp), List.append_nil, ← hm])] at r2'
      exact r2'
  · have hi : i = D.zs.length := by have := of_decide_eq_false hlt; simp only [] at this; omega
    subst hi
    rw [upto_full] at r1
    have o1 : DevOk { D with zs := D.zs.mapIdx (crash1 keep tear) } := by
      refine ⟨by simpa using o.zones, o.pages, o.fuse, fun Y hY => ?_⟩
      simp only [List.mem_mapIdx] at hY
      obtain ⟨i, hi, rfl⟩ := hY
      exact crash1_ok (o.zone _ (List.getElem_mem hi)) keep tear i
    refine call_of (settle_ok o1 h1 ⟨za, c, arr', r1⟩) ?_
    rintro v h2 ⟨rfl, ⟨za2, c2, arr2, r2⟩, f2⟩
    rw [crash1_settle] at r2
    refine ⟨(), rfl, ?_⟩
    rw [add_mk]
    refine st_blk r2.blk (show 0 + 4 < 5 by omega) fun h3 b3 o3 => ?_
    have r3 : PD k t1 h3 b za2 c2 arr2 { D with zs := D.zs.mapIdx fun i Z => Z.crash keep tear i, down := false } := r2.setD rfl b3 o3.upd
    rw [add_mk]
    refine st_blk r3.blk (show 0 + 2 < 5 by omega) fun h4 b4 o4 => ?_
    have r4 : PD k t1 h4 b za2 c2 arr2 (D.crash keep tear) := r3.setD rfl b4 o4.upd
    exact ⟨rfl, t1, ⟨za2, c2, arr2, r4⟩, (f1.trans f2).trans (Fr.upd (o3.upd.trans o4.upd) fun hn => hn (by rw [r2.tagB]))⟩
/- A NEW DEVICE. -/
theorem new_no (n p : Int) (h : Heap) (hn : ¬ ((1 ≤ n ∧ n ≤ 24) ∧ 1 ≤ p ∧ p ≤ 16)) : CallsH Tryd.prog 25 [.int .i64 n, .int .i64 p] h fun v h' => v = .tuple #[.pointer none, errV 1] ∧ h' = h := by
  refine fun_ok hm' Tryd.func25 (by kernel_rfl) (F25_eq _ _ _ h) ?_
  unfold F25
  refine cut_q (ts := []) (fun _ _ => False) (fun _ _ hf _ => hf.elim) ?_
  intro K hK
  refine br_of (fun _ => ⟨rfl, rfl⟩) fun h1 => br_of (fun _ => ⟨rfl, rfl⟩) fun h2 => br_of (fun _ => ⟨rfl, rfl⟩) fun h3 => br_of (fun _ => ⟨rfl, rfl⟩) fun h4 => ?_
  have h1 := of_decide_eq_false h1; have h2 := of_decide_eq_false h2; have h3 := of_decide_eq_false h3; have h4 := of_decide_eq_false h4
  exact (hn ⟨⟨by omega, by omega⟩, by omega, by omega⟩).elim
theorem sizeZ : sizeN Tryd.prog 140 = 3 := by kernel_rfl
theorem bytesZ : bytesN Tryd.prog 140 = 40 := by kernel_rfl
theorem zeros_get {P : Program} {e : TypeId} {n i : Nat} {z : Array Value} (hz : zeroC P e = z) (hs : z.size = 3) (hi : i < n * 3) : (zerosOf P e (n * 3))[i]? = z[i % 3]? := by
  unfold zerosOf
  rw [hz, hs, Array.getElem?_map, Array.getElem?_range, if_pos hi]
  have : i % 3 < z.size := by omega
  simp [this]
def NewDev (L : Lo) (k : Nat) (t : Tags) (h : Heap) (b : Nat) (D : Dev) (h' : Heap) : Prop := New h h' ∧ h.size ≤ b ∧ ∃ t', (∀ g, g < h.size → t' g = t g) ∧ DRep L k t' h' b D
theorem new_ok (k : Nat) (hk : k ≠ 0) (t : Tags) (n p : Nat) (h : Heap) (hn : 1 ≤ n ∧ n ≤ 24) (hp : 1 ≤ p ∧ p ≤ 16) : CallsH Tryd.prog 25 [.int .i64 (n : Int), .int .i64 (p : Int)] h fun v h' => ∃ b, v = .tuple #[ptr b, errV 0] ∧ NewDev LoP k t h b (Dev.empty n p) h' := by
  refine fun_ok hm' Tryd.func25 (by kernel_rfl) (F25_eq _ _ _ h) ?_
  unfold F25
  refine cut_q (ts := []) (fun _ h' => h' = h) ?_ ?_
  rotate_left
  · intro K hK
    exact br_f (decide_eq_false (by omega)) (br_f (decide_eq_false (by omega)) (br_f (decide_eq_false (by omega)) (br_f (decide_eq_false (by omega)) (hK () _ rfl))))
  rintro _ h' hh _; subst h'
  refine ⟨⟨by omega, by omega, by rw [bytesZ]; omega, by omega⟩, ?_⟩
  rw [Int.toNat_natCast, sizeZ]
  generalize hg : h.push (.cells (zerosOf Tryd.prog 140 (n * 3)) 140) = h1
  have b1 : Blk h1 h.size (zerosOf Tryd.prog 140 (n * 3)) 140 := by rw [← hg]; exact Blk.push ..
  have n1 : New h h1 := by rw [← hg]; exact New.push ..
  have s1 : h1.size = h.size + 1 := by rw [← hg]; simp
  refine new_of fun h2 b2 n2 s2 => ⟨h1.size, rfl, n1.trans n2, by omega, fun g => if g < h.size then t g else if g = h.size then (k, 1) else (k, 0), fun g hg => if_pos hg, h.size, n, zerosOf Tryd.prog 140 (n * 3), ?_⟩
  have hl : (Dev.empty n p).zs.length = n := by simp [Dev.empty]
  refine ⟨hk, ?_, ?_, b1.new n2, ?_, by simp [zerosOf], by rw [hl]; exact Nat.le_refl _, by simp [maxLen]; omega, fun z Z hz => ?_⟩
  · rw [hl]; exact b2
  · show (if h1.size < h.size then t h1.size else if h1.size = h.size then (k, 1) else (k, 0)) = (k, 0)
    rw [if_neg (by omega), if_neg (by omega)]
  · show (if h.size < h.size then t h.size else if h.size = h.size then (k, 1) else (k, 0)) = (k, 1)
    rw [if_neg (by omega), if_pos rfl]
  · have hzn : z < n := by have := (List.getElem?_eq_some_iff.1 hz).1; omega
    have : Z = Zn.bare := List.eq_of_mem_replicate (List.mem_of_getElem? hz)
    subst this
    refine ⟨none, 0, fun j hj => ?_, PRow.nil _ _ _ _⟩
    rw [zeros_get zeroZ rfl (by omega), show (z * 3 + j) % 3 = j by omega]
    match j, hj with
    | 0, _ => rfl
    | 1, _ => rfl
    | 2, _ => rfl
end Go.Proofs.YtgohecjnjadnpaaDoor.ZnsP
