/-
  What MediaKeeps of layer 16 comes to.
-/
import Derived.Test.YtgohecjnjadnpaaDoorMedL
import Derived.Test.YtgohecjnjadnpaaDoorR2
import Derived.Test.YtgohecjnjadnpaaDoorKeepP
import Derived.Test.YtgohecjnjadnpaaDoorErr4I
import Derived.Test.YtgohecjnjadnpaaDoorWL16K
namespace Go.Proofs.YtgohecjnjadnpaaDoor.MedK
open Go.Pl Go.Proofs.YtgohecjnjadnpaaDoor.W Go.Proofs.YtgohecjnjadnpaaDoor.Byts Go.Proofs.YtgohecjnjadnpaaDoor.As Go.Proofs.YtgohecjnjadnpaaDoor.Err Go.Proofs.YtgohecjnjadnpaaDoor.Head Go.Proofs.YtgohecjnjadnpaaDoor.HdP Go.Proofs.YtgohecjnjadnpaaDoor.Zns Go.Proofs.YtgohecjnjadnpaaDoor.ZnsP Go.Proofs.YtgohecjnjadnpaaDoor.Geo Go.Proofs.YtgohecjnjadnpaaDoor.Med Go.Proofs.YtgohecjnjadnpaaDoor.MedA Go.Proofs.YtgohecjnjadnpaaDoor.Keep
abbrev Act := MedA.Act
abbrev A6 := Option Addr × Nat × Option Addr × Nat × Option Addr × Nat
abbrev actQ (x : Act) (q : A6) : ActC := actC x q.1 q.2.2.1 q.2.2.2.2.1 q.2.1 q.2.2.2.1 q.2.2.2.2.2
abbrev actW (x : Act) (q : A6) : Value := actV x q.1 q.2.2.1 q.2.2.2.2.1 q.2.1 q.2.2.2.1 q.2.2.2.2.2
theorem acts_at {h0 : Heap} {a : Option Addr} {l : List ActT} (r : SlAt h0 ActS a l) : ∃ q : Nat → A6, ∀ i (hi : i < l.length), ActIn h0 (actOf l[i]) (q i).1 (q i).2.1 (q i).2.2.1 (q i).2.2.2.2.1 ∧
    ∀ h, New h0 h → ∀ (m : Nat) (F : ActC → Prop), i < m → F (actQ (actOf l[i]) (q i)) → ptrW a (fun p => idxW (i : Int) m true (ldAggW ActY (Addr.add p (Int.toNat (i : Int) * 10)) F h)) := by
  have hx : ∀ i : Nat, ∃ q : A6, ∀ hi : i < l.length, ActIn h0 (actOf l[i]) q.1 q.2.1 q.2.2.1 q.2.2.2.2.1 ∧
      ∀ h, New h0 h → ∀ (m : Nat) (F : ActC → Prop), i < m → F (actQ (actOf l[i]) q) → ptrW a (fun p => idxW (i : Int) m true (ldAggW ActY (Addr.add p (Int.toNat (i : Int) * 10)) F h)) := fun i => by
    by_cases hi : i < l.length
    · obtain ⟨b, o, es, rfl, hb, hel, hc, re⟩ := r i _ (List.getElem?_eq_getElem hi)
      obtain ⟨ba, bc, ka, kc, ta, tc, rfl, hin⟩ := act_in re
      refine ⟨(ba, bc, ka, kc, ta, tc), fun _ => ⟨hin, fun h n m F hm hF => ?_⟩⟩
      exact agg_at (k := 10) (actC (actOf l[i]) ba ka ta bc kc tc) (es := (actA (actOf l[i]) ba ka ta bc kc tc).toList) (fun j hj => by rw [cellH_same (n.same b hb)]; exact hc j hj) (actC_vals ..).symm rfl hm hF
    · exact ⟨(none, 0, none, 0, none, 0), fun h => (hi h).elim⟩
  exact ⟨fun i => Classical.choose (hx i), fun i hi => Classical.choose_spec (hx i) hi⟩
theorem geo_in {h : Heap} {v : Value} {x : Int × Int × Int} (r : ReadsV h GeoS v x) : v = geoV x.1 x.2.1 x.2.2 := by
  obtain ⟨cs, rfl, c1, d1, rfl, ⟨rfl, _⟩, c2, d2, rfl, ⟨rfl, _⟩, ⟨rfl, _⟩⟩ := r
  rfl
theorem notLarge {l : List ActT} (h : isLarge l = false) : l.length ≤ 100 ∧ ∀ x ∈ l, small (actOf x) := by
  unfold isLarge at h; simpa using h
abbrev TMp : TypeId := 105
theorem undM : Tryd.prog.underlying TMp = some (.map 22 88) := by kernel_rfl
theorem und32 : Tryd.prog.underlying 22 = some (.int .u32) := by kernel_rfl
/-- What is there while acts are done: the device, the map, and all that was there. -/
structure St (h4 : Heap) (b mb : Nat) (f : Nat → Value) (t : Tags) (h : Heap) (D : Dev) (K : Kp) : Prop where
  dev : PRep 1 t h b D
  bs : Bs h4 t h
  mp : MapT h mb .u32 f K
  tg : t mb = (3, 0)
section
variable {h4 h h' : Heap} {b mb : Nat} {f : Nat → Value} {t t' : Tags} {D D' : Dev} {K K' : Kp}
theorem St.new (s : St h4 b mb f t h D K) (n : New h h') : St h4 b mb f t h' D K := ⟨s.dev.new n, s.bs.newer n, s.mp.new n, s.tg⟩
theorem St.own (s : St h4 b mb f t h D K) (r : PRep 1 t' h' b D') (fr : Fr (fun p => p.1 ≠ 1) t h t' h') : St h4 b mb f t' h' D' K :=
  ⟨r, s.bs.own (by decide) fr, s.mp.same (fr.same mb s.mp.lt (by rw [s.tg]; decide)), (fr.tags mb s.mp.lt).trans s.tg⟩
theorem St.turn {q : Nat} (s : St h4 b mb f t h D K) (hq : t q = (3, 0)) (o : Only q h h') (m : MapT h' mb .u32 f K') : St h4 b mb f t h' D K' := by
  have fr : Fr (fun p : Nat × Nat => p ≠ (3, 0)) t h t h' := Fr.upd o.upd fun hn => hn hq
  exact ⟨s.dev.fr fr (fun p hp e => by subst e; simp at hp) (fun j e => by have := (Prod.mk.inj e).1; omega), s.bs.fr fr (fun p hp e => by subst e; simp at hp), m, s.tg⟩
theorem St.lay (s : St h4 b mb f t h D K) (n : New h h') : St h4 b mb f (lay t h.size (3, 0)) h' D K := by
  have fr : Fr (fun _ => True) t h (Pl.lay t h.size (3, 0)) h' := Fr.lay n _
  exact ⟨s.dev.fr fr (fun _ _ => trivial) fun _ => trivial, s.bs.fr fr fun _ _ => trivial, s.mp.new n, (lay_lt s.mp.lt).trans s.tg⟩
end
theorem zAct (w : World) : (zeroValue 88).run Tryd.prog w = .ok (.agg #[.int .i64 0, .int .i64 0, .int .u32 0, .int .u8 0, .int .u32 0, .int .u32 0, .int .u32 0, .slice none 0 0, .slice none 0 0, .slice none 0 0]) w := by kernel_rfl
theorem zeroHd : (zeroC Tryd.prog 24).size = 4 := by kernel_rfl
theorem crash_none {D : Dev} {z p : Int} (g : GOk z p D) : GOk z p (D.crash [] []) := GOk.of g (g.ok.crash _ _) ⟨by simp [Dev.crash], rfl⟩
set_option maxHeartbeats 1000000 in
theorem keeps_law (h : Heap) (v0 v1 : Value) (g : Int × Int × Int) (l : List ActT) (r0 : ReadsV h GeoS v0 g) (r1 : ReadsV h (.slice ActS) v1 l) (hg : Laid h) :
    CallsH Tryd.prog 13 [v0, v1] h fun v h' => v = .bool true ∧ New h h' := by
  obtain rfl := geo_in r0
  obtain ⟨la, lc, rfl, _, _, _, sl⟩ := SlAt.reads r1
  obtain ⟨z, p, gb⟩ := g
  obtain ⟨q, hq⟩ := acts_at sl
  refine fun_ok Geo.hm' Tryd.func13 (by kernel_rfl) (F13_eq _ _ _ _ _ _ _ h) ?_
  unfold F13
  refine new_of fun h1 b1 n1 s1 => call_of (awake_ok h1 (hg.new n1)) ?_
  rintro v h3 ⟨rfl, n3⟩
  have n03 := n1.trans n3
  have b1 : Blk h3 h.size #[.int .i64 z, .int .i64 p, .int .i64 gb] 85 := b1.new n3
  refine ⟨true, rfl, br_f rfl (cut_q (ts := []) (fun _ h' => New h3 h' ∧ rightB z p gb = true ∧ isLarge l = false) ?_ ?_)⟩
  rotate_left
  · intro K hK
    refine ldAgg_blk (z, p, gb) b1 ⟨rfl, rfl, rfl, trivial⟩ (call_of (R2.rright_ok z p gb h3) ?_)
    rintro v h4 ⟨rfl, n4⟩
    refine ⟨_, rfl, br_of (fun hr => ⟨rfl, n03.trans n4⟩) fun hr => call_of (large_ok la lc l h4 (sl.new (n03.trans n4))) ?_⟩
    rintro v h5 ⟨rfl, n5⟩
    have n05 := (n03.trans n4).trans n5
    exact ⟨_, rfl, br_of (fun hl => ⟨rfl, n05⟩) fun hl => hK _ _ ⟨n4.trans n5, by simpa using hr, by simpa using hl⟩⟩
  rintro _ h4 ⟨n4, hr, hl⟩ _
  have b1 := b1.new n4
  have n04 := n03.trans n4
  obtain ⟨hz, hp, _, _⟩ := right_facts hr
  have hl100 := (notLarge hl).1
  obtain ⟨zn, rfl⟩ := Int.eq_ofNat_of_zero_le (show 0 ≤ z by omega)
  obtain ⟨pn, rfl⟩ := Int.eq_ofNat_of_zero_le (show 0 ≤ p by omega)
  refine ld_of (c := .int .i64) (zn : Int) (by rw [add_mk, cellH_blk b1]; rfl) (ld_of (c := .int .i64) (pn : Int) (by rw [add_mk, cellH_blk b1]; rfl) (call_of (ZnsP.new_ok 1 (by decide) (fun _ => (0, 0)) zn pn h4 (by omega) (by omega)) ?_))
  rintro v h5 ⟨b, rfl, n5, _, t5, ht5, r5⟩
  have gk5 : GOk (zn : Int) (pn : Int) (Dev.empty zn pn) := ⟨by omega, by omega, by simp [Dev.empty], rfl, DevOk.empty (by omega) (by omega)⟩
  have bs5 : Bs h4 t5 h5 := (Bs.start (hg.new n04)).tags n5 ht5
  have r5 : PRep 1 t5 h5 b (Dev.empty zn pn) := r5
  obtain ⟨X, hX⟩ : ∃ X : Nat → Act, ∀ i (hi : i < l.length), X i = actOf l[i] := ⟨fun i => if hi : i < l.length then actOf l[i] else actOf default, fun i hi => dif_pos hi⟩
  have k5 : Keep.Kept (zn : Int) (pn : Int) (Dev.empty zn pn) X 0 [] := Keep.Kept.start _ _ zn pn X
  have d5 : (Dev.empty zn pn).down = false := rfl
  generalize Dev.empty zn pn = D5 at r5 gk5 k5 d5
  have hq : ∀ i, i < l.length → ActIn h (X i) (q i).1 (q i).2.1 (q i).2.2.1 (q i).2.2.2.2.1 ∧
    ∀ h', New h h' → ∀ (m : Nat) (F : ActC → Prop), i < m → F (actQ (X i) (q i)) → ptrW la (fun p => idxW (i : Int) m true (ldAggW ActY (Addr.add p (Int.toNat (i : Int) * 10)) F h')) := fun i hi => by rw [hX i hi]; exact hq i hi
  have hsm : ∀ i, i < l.length → small (X i) := fun i hi => by rw [hX i hi]; exact (notLarge hl).2 _ (List.getElem_mem hi)
  clear hX
  refine ⟨(some ⟨b, 0, none⟩, errV 0), rfl, br_f rfl (mkt_of (kk := .u32) (f := fun i => actW (X i) (q i)) fun h6 m6 n6 s6 => ?_)⟩
  obtain ⟨mb, hmb⟩ : ∃ mb, mb = h5.size := ⟨_, rfl⟩
  have st6 : St h4 b mb (fun i => actW (X i) (q i)) (lay t5 h5.size (3, 0)) h6 D5 [] := by
    have fr : Fr (fun _ => True) t5 h5 (lay t5 h5.size (3, 0)) h6 := Fr.lay n6 _
    exact ⟨r5.fr fr (fun _ _ => trivial) fun _ => trivial, bs5.fr fr fun _ _ => trivial, by rw [hmb]; exact m6, by rw [hmb]; exact lay_ge (Nat.le_refl _)⟩
  rw [← hmb]
  clear r5 bs5 m6 hmb ht5
  refine ⟨fun (s : Int) h' => ∃ (i : Nat) (t : Tags) (D : Dev) (K : Kp), s = i ∧ i ≤ l.length ∧ GOk (zn : Int) (pn : Int) D ∧ D.down = false ∧ Keep.Kept (zn : Int) (pn : Int) D X i K ∧ St h4 b mb (fun i => actW (X i) (q i)) t h' D K, fun (s : Int) _ => ((l.length : Int) - s).toNat, ⟨0, _, D5, [], rfl, Nat.zero_le _, gk5, d5, k5, st6⟩, ?_⟩
  clear st6 gk5 d5 k5
  rintro s j h7 ⟨i, t7, D7, K7, rfl, hi, gk7, d7, k7, st7⟩
  refine br_of (fun hlt => ?_) (fun hlt => ?_)
  · have hlt : (i : Int) < (l.length : Int) := of_decide_eq_true hlt
    have hlt : i < l.length := by omega
    obtain ⟨lin, ld⟩ := hq i hlt
    refine ld _ (n04.trans st7.bs.new) _ _ hlt (new_stL (by rw [zeroAct]; rfl) fun h8 b8 n8 s8 => ?_)
    have b8 : Blk h8 h7.size (actA (X i) (q i).1 (q i).2.2.1 (q i).2.2.2.2.1 (q i).2.1 (q i).2.2.2.1 (q i).2.2.2.2.2) 88 := b8
    have st8 := St.lay st7 n8
    have t8 : lay t7 h7.size (3, 0) h7.size = (3, 0) := lay_ge (Nat.le_refl _)
    generalize lay t7 h7.size (3, 0) = t8' at st8 t8
    refine ldAgg_blk ((zn : Int), (pn : Int), gb) (b1.new st8.bs.new) ⟨rfl, rfl, rfl, trivial⟩ (ldAct b8 (call_of (do_ok gk7 gb (X i) (q i).1 (q i).2.2.1 (q i).2.2.2.2.1 (q i).2.1 (q i).2.2.2.1 (q i).2.2.2.2.2 h8 st8.bs (lin.new n04) st8.dev (by decide)) ?_))
    rintro v h9 ⟨a9, c9, t9, rfl, r9, f9, _⟩
    have st9 := St.own st8 r9 f9
    have b9 := f9.blk b8 (by rw [t8]; decide)
    have gk9 : GOk (zn : Int) (pn : Int) (MedA.act zn pn D7 (X i)).1 := GOk.act gk7 lin
    have k9 := Kept0.act gk7 k7.toKept0 lin.hd lin.b.byt
    have hkA : keptA zn pn D7 (X i) i K7 = if (X i).op = 0 ∧ (MedA.act zn pn D7 (X i)).2.e = 0 then putP K7 (MedA.act zn pn D7 (X i)).2.a i else K7 := rfl
    rw [hkA] at k9
    clear hkA f9 r9
    generalize MedA.act zn pn D7 (X i) = A at *
    refine ⟨toldC _ _ a9 _ c9 _, rfl, new_stL (by rw [zeroT]; rfl) fun h10 b10 n10 s10 => ?_⟩
    have b10 : Blk h10 h9.size (toldA A.2.a A.2.hd a9 A.2.b.length c9 A.2.e) TTold := b10
    have st10 := St.new st9 n10
    have b810 := b9.new n10
    have hne : h7.size ≠ mb := fun e => by have := st7.mp.lt; omega
    refine cut_q (ts := []) (fun _ h' => ∃ t', St h4 b mb (fun i => actW (X i) (q i)) t' h' A.1 (if (X i).op = 0 ∧ A.2.e = 0 then putP K7 A.2.a i else K7)) ?_ ?_
    rotate_left
    · intro K hK
      have hno : ¬ ((X i).op = 0 ∧ A.2.e = 0) → K () h10 := fun hh => hK _ _ ⟨t9, by rw [if_neg hh]; exact st10⟩
      refine ld_of (c := .int .i64) (X i).op (by rw [add_mk, cellH_blk b810]; rfl) (br_of (fun h0 => ?_) fun h0 => hno fun hh => by simp [hh.1] at h0)
      have h0 : (X i).op = 0 := by simpa using h0
      refine ld_of (c := .int .i64) A.2.e (by rw [add_mk, cellH_blk b10]; rfl) (br_of (fun h2 => ?_) fun h2 => hno fun hh => by simp [hh.2] at h2)
      have h2 : A.2.e = 0 := by simpa using h2
      refine ld_of (c := .int .u32) A.2.a (by rw [add_mk, cellH_blk b10]; rfl) (ldAct b810 (mut_of (f := fun i => actW (X i) (q i)) i undM und32 st10.mp fun h11 m11 o11 => hK _ _ ⟨t9, ?_⟩))
      rw [if_pos ⟨h0, h2⟩]
      exact St.turn st10 st10.tg o11 m11
    rintro _ h11 ⟨t11, st11⟩ _
    generalize A.1 = D9 at gk9 k9 st11
    generalize (if (X i).op = 0 ∧ A.2.e = 0 then putP K7 A.2.a i else K7) = K9 at k9 st11
    refine cut_q (ts := []) (fun _ h' => ∃ t' D', GOk (zn : Int) (pn : Int) D' ∧ D'.down = false ∧ Kept0 (zn : Int) (pn : Int) D' X (i + 1) K9 ∧ St h4 b mb (fun i => actW (X i) (q i)) t' h' D' K9) ?_ ?_
    rotate_left
    · intro K hK
      refine call_of (down_ok h11 st11.dev) ?_
      rintro v h12 ⟨rfl, hh⟩; subst h12
      refine ⟨D9.down, rfl, br_of (fun hd => ?_) fun hd => hK _ _ ⟨_, _, gk9, hd, k9, st11⟩⟩
      have ins : ZnsP.Ins t11 h11 none [] none [] := ⟨Ar.nil _ _ _, fun i x hx => by simp at hx, fun e => (e rfl).elim, fun e => (e rfl).elim⟩
      refine call_of (ZnsP.crash_ok gk9.ok none 0 [] none 0 [] h11 st11.dev ins (fun x hx => by cases hx)) ?_
      rintro v h12 ⟨rfl, t12, r12, f12⟩
      exact ⟨(), rfl, hK _ _ ⟨_, _, crash_none gk9, rfl, k9.shr (Shr.crash D9 [] []), St.own st11 r12 f12⟩⟩
    rintro _ h12 ⟨t12, D, gk, hd, k0, st12⟩ _
    clear st11 st10 st9 st8 k9 gk9
    refine ldAgg_blk ((zn : Int), (pn : Int), gb) (b1.new st12.bs.new) ⟨rfl, rfl, rfl, trivial⟩ (call_of (log_ok (zn : Int) (pn : Int) gb h12 (by omega) (by omega)) ?_)
    rintro v h13 ⟨rfl, n13⟩
    refine ⟨(zn : Int) - 2, rfl, ?_⟩
    have st13 := St.new st12 n13
    refine ⟨fun (s : Int) h' => ∃ (m : Nat) (K' : Kp), s = m ∧ m + 2 ≤ zn ∧ Rid (pn : Int) D K9 m 0 K' ∧ St h4 b mb (fun i => actW (X i) (q i)) t12 h' D K', fun (s : Int) _ => ((zn : Int) - s).toNat, ⟨0, K9, rfl, by omega, Rid.start k0.nd, st13⟩, ?_⟩
    rintro s j h14 ⟨m, K14, rfl, hm, rid14, st14⟩
    refine br_of (fun hlt2 => ?_) (fun hlt2 => ?_)
    · have hlt2 : (m : Int) < (zn : Int) - 2 := of_decide_eq_true hlt2
      refine call_of (point_ok (m : Int) h14 st14.dev) ?_
      rintro v h15 ⟨rfl, n15⟩
      have hpt := gk.pt (m : Int)
      refine ⟨(D.point (m : Int) : Int), rfl, fun (s : Int) h' => ∃ (i' : Nat) (K' : Kp), s = i' ∧ D.point (m : Int) ≤ i' ∧ i' ≤ pn ∧ Rid (pn : Int) D K9 m i' K' ∧ St h4 b mb (fun i => actW (X i) (q i)) t12 h' D K', fun (s : Int) _ => ((pn : Int) - s).toNat, ⟨_, K14, rfl, Nat.le_refl _, by omega, Rid.inner rid14, St.new st14 n15⟩, ?_⟩
      rintro s j2 h16 ⟨i', K16, rfl, hi1, hi2, rid16, st16⟩
      refine ld_of (c := .int .i64) (pn : Int) (by rw [add_mk, cellH_blk (b1.new st16.bs.new)]; rfl) (br_of (fun hlt3 => ?_) (fun hlt3 => ?_))
      · have hlt3 : (i' : Int) < (pn : Int) := of_decide_eq_true hlt3
        refine ldAgg_blk ((zn : Int), (pn : Int), gb) (b1.new st16.bs.new) ⟨rfl, rfl, rfl, trivial⟩ (call_of (of_ok (zn : Int) (pn : Int) gb (m : Int) (i' : Int) h16 (by omega) (by omega)) ?_)
        rintro v h17 ⟨rfl, n17⟩
        rw [(adr_at (z := (zn : Int)) gk.pr (by omega) hlt3).2]
        have st17 := St.new st16 n17
        refine ⟨adr (pn : Int) m i', rfl, del_of undM und32 st17.mp fun h18 m18 o18 => ?_⟩
        have ez : IntKind.wrap .i64 ((i' : Int) + 1) = ((i' + 1 : Nat) : Int) := (by first | (rw [wr64 (by omega) (by omega)]; omega) | (simp only [IntKind.wrap_i64]; omega))
        simp only [ez]
        exact ⟨⟨i' + 1, _, rfl, by omega, by omega, Rid.del rid16 hi1 hlt3, St.turn st17 st17.tg o18 m18⟩, (by first | omega | (dsimp only; omega) | (simp only []; omega))⟩
      · have hlt3 : ¬ (i' : Int) < (pn : Int) := of_decide_eq_false hlt3
        have ez : IntKind.wrap .i64 ((m : Int) + 1) = ((m + 1 : Nat) : Int) := (by first | (rw [wr64 (by omega) (by omega)]; omega) | (simp only [IntKind.wrap_i64]; omega))
        simp only [ez]
        exact ⟨⟨m + 1, K16, rfl, by omega, Rid.outer rid16 (by omega), st16⟩, (by first | omega | (dsimp only; omega) | (simp only []; omega))⟩
    · have hlt2 : ¬ (m : Int) < (zn : Int) - 2 := of_decide_eq_false hlt2
      have ez : IntKind.wrap .i64 ((i : Int) + 1) = ((i + 1 : Nat) : Int) := (by first | (rw [wr64 (by omega) (by omega)]; omega) | (simp only [IntKind.wrap_i64]; omega))
      simp only [ez]
      exact ⟨⟨i + 1, t12, D, K14, rfl, hlt, gk, hd, Kept0.rid gk k0 rid14 (by omega), st14⟩, (by first | omega | (dsimp only; omega) | (simp only []; omega))⟩
  · have hlt : ¬ (i : Int) < (l.length : Int) := of_decide_eq_false hlt
    have : i = l.length := by omega
    subst this
    clear hi hlt
    generalize D7 = D at *
    generalize K7 = K at *
    refine ldAgg_blk ((zn : Int), (pn : Int), gb) (b1.new st7.bs.new) ⟨rfl, rfl, rfl, trivial⟩ (call_of (scan_ok gk7 gb h7 st7.dev) ?_)
    rintro v h8 ⟨⟨a8, c8, rfl, ow8⟩, n8⟩
    refine ⟨(a8, (scanM (zn : Int) (pn : Int) D).length, c8), rfl, ?_⟩
    have pr8 : PR h8 a8 (scanM (zn : Int) (pn : Int) D) := PR.own ow8
    have hup := scan_up gk7
    have hsc := Keep.Kept.scan gk7 d7 k7
    have hcnt := Keep.Kept.count gk7 d7 k7
    have hLlen : (scanM (zn : Int) (pn : Int) D).length ≤ 100000 := by
      have h1 := preI_len gk7 ((zn : Int) - 2).toNat 0
      rw [preI_zero] at h1
      have e : preZ (pn : Int) D ((zn : Int) - 2).toNat = alls (zn : Int) (pn : Int) D := rfl
      rw [e] at h1
      have h2 : (scanM (zn : Int) (pn : Int) D).length ≤ (alls (zn : Int) (pn : Int) D).length := fl_le _ _ D _
      omega
    have hKlen : K.length ≤ 100000 := by
      have h1 := (Keep.Kept.keys gk7 k7).length_eq
      have h2 := preI_len gk7 ((zn : Int) - 2).toNat 0
      rw [preI_zero] at h2
      have e : preZ (pn : Int) D ((zn : Int) - 2).toNat = alls (zn : Int) (pn : Int) D := rfl
      rw [e] at h2
      unfold keysL at h1
      rw [List.length_map] at h1
      omega
    generalize hL : scanM (zn : Int) (pn : Int) D = L at *
    have st8 := St.new st7 n8
    refine ⟨fun (s : Int × Int × Int) h' => New h8 h' ∧ ∃ i : Nat, s.1 = i ∧ s.2.2 = i ∧ i ≤ L.length ∧ 0 ≤ s.2.1 ∧ s.2.1 < 4294967296 ∧ ∀ j (hj : j < L.length), i ≤ j → s.2.1 < L[j].1, fun (s : Int × Int × Int) _ => ((L.length : Int) - s.2.2).toNat, ⟨New.refl h8, 0, rfl, rfl, Nat.zero_le _, Int.le_refl 0, (by decide), fun j hj _ => ?_⟩, ?_⟩
    · obtain ⟨_, _, _, h1, _⟩ := hsc L[j] (List.getElem_mem hj)
      show (0 : Int) < _
      omega
    rintro ⟨sn, la', si⟩ j h9 ⟨n9, i, h91, h92, hi, hl0, hl1, hlast⟩
    have h91 : sn = (i : Int) := h91
    have h92 : si = (i : Int) := h92
    subst h91; subst h92
    obtain ⟨la2, hla⟩ : ∃ m : Int, m = la' := ⟨la', rfl⟩
    subst hla
    have st9 := St.new st8 n9
    refine br_of (fun hlt => ?_) (fun hlt => ?_)
    · have hlt : (i : Int) < (L.length : Int) := of_decide_eq_true hlt
      have hiL : i < L.length := by omega
      obtain ⟨j, hgp, hjn, hy1, hy2, hget, hhd⟩ := hsc L[i] (List.getElem_mem hiL)
      have hlast1 : la2 < L[i].1 := hlast i hiL (Nat.le_refl _)
      have hnext : ∀ m (hm : m < L.length), i + 1 ≤ m → L[i].1 < L[m].1 := fun m hm him => List.pairwise_iff_getElem.1 hup i m hiL hm (by omega)
      refine PR.ld (pr8.new n9) hiL hiL ?_
      generalize L[i] = y at *
      refine new_stL (by rw [zeroPg]; rfl) fun h10 b10 n10 s10 => ?_
      have hb10 : Blk h10 h9.size #[.int .u32 y.1, .int .u8 y.2.1, .int .u32 y.2.2.1, .int .u32 y.2.2.2.1, .int .u32 y.2.2.2.2] TPg := b10
      have st10 := St.new st9 n10
      obtain ⟨lin, _⟩ := hq j hjn
      refine ld_of (c := .int .u32) y.1 (by rw [add_mk, cellH_blk hb10]; rfl) (lk2_of (T := .agg ActY) (f := fun i => actW (X i) (q i)) undM und32 zAct st10.mp.mapB (actQ (X j) (q j)) (by rw [hgp]; rfl) ?_)
      rw [hgp]
      refine new_stL (by rw [zeroAct]; rfl) fun h11 b11 n11 s11 => ?_
      have b11 : Blk h11 h10.size (actA (X j) (q j).1 (q j).2.2.1 (q j).2.2.2.2.1 (q j).2.1 (q j).2.2.2.1 (q j).2.2.2.2.2) 88 := b11
      have st11 := St.new st10 n11
      have b1011 := hb10.new n11
      refine ldAgg_blk ((zn : Int), (pn : Int), gb) (b1.new st11.bs.new) ⟨rfl, rfl, rfl, trivial⟩ (ld_of (c := .int .u32) y.1 (by rw [add_mk, cellH_blk b1011]; rfl) (call_of (get_ok gk7 gb y.1 ⟨by omega, hy2⟩ h11 st11.dev) ?_))
      rintro v h12 ⟨a12, c12, e12, l12, rfl, he12, g12⟩
      rw [hget] at he12 g12 ⊢
      simp only [] at he12 g12 ⊢
      refine ⟨((X j).hd, (a12, (X j).b.length, c12), e12), rfl, new_stL (by rw [zeroHd]; rfl) fun h13 b13 n13 s13 => ?_⟩
      have n1113 := g12.new.trans n13
      have b13 : Blk h13 h12.size (hdA (X j).hd) 24 := b13
      have b1013 := b1011.new n1113
      have b1113 := b11.new n1113
      have he13 := he12.new n13
      refine cut_q (ts := []) (fun _ h' => h' = h13) ?_ ?_
      rotate_left
      · intro K5 hK5
        refine br_f rfl ⟨he13.ok.1, br_f (by rw [he13.ok.2]; rfl) (ldAgg_blk (X j).hd b13 ⟨rfl, rfl, rfl, rfl, trivial⟩ (ldAgg_add (o := 0) y.2 b1013 ⟨rfl, rfl, rfl, rfl, trivial⟩ ⟨_, hd_eq (X j).hd y.2, br_f (by rw [hhd]; simp) (ldAgg_blk (X j).hd b13 ⟨rfl, rfl, rfl, rfl, trivial⟩ (ldAgg_add (o := 0) (X j).hd b1113 ⟨rfl, rfl, rfl, rfl, trivial⟩ ⟨_, hd_eq (X j).hd (X j).hd, br_f (by simp) ?_⟩))⟩))⟩
        refine ld_of (c := .slice) ((q j).1, (X j).b.length, (q j).2.1) (by rw [add_mk, cellH_blk b1113]; rfl) (call_of (Same3.same_ok _ _ (X j).b.length (X j).b.length c12 _ h13 (X j).b (X j).b rfl rfl (by have := (hsm j hjn).1; omega) (g12.ar.new n13) (lin.b.ar.new (n04.trans ((st11.bs.new).trans n1113)))) ?_)
        rintro v h' ⟨rfl, hh⟩; subst h'
        exact ⟨true, by rw [decide_eq_true rfl] <;> rfl, br_f rfl (ld_of (c := .int .u32) y.1 (by rw [add_mk, cellH_blk b1013]; rfl) (br_f (decide_eq_false (by show ¬ y.1 ≤ la2; omega)) (hK5 _ _ rfl)))⟩
      rintro _ h' hh _
      subst h'
      refine ld_of (c := .int .u32) y.1 (by rw [add_mk, cellH_blk b1013]; rfl) ?_
      have ez : IntKind.wrap .i64 ((i : Int) + 1) = ((i + 1 : Nat) : Int) := (by first | (rw [wr64 (by omega) (by omega)]; omega) | (simp only [IntKind.wrap_i64]; omega))
      simp only [ez]
      exact ⟨⟨((n9.trans n10).trans n11).trans n1113, i + 1, rfl, rfl, by omega, by show 0 ≤ y.1; omega, hy2, hnext⟩, (by first | omega | (dsimp only; omega) | (simp only []; omega))⟩
    · have hlt : ¬ (i : Int) < (L.length : Int) := of_decide_eq_false hlt
      have : i = L.length := by omega
      subst this
      refine rg_of undM st9.mp fun h10 it10 n10 s10 => ?_
      have st10 := St.lay st9 n10
      have t10 : lay t7 h9.size (3, 0) h9.size = (3, 0) := lay_ge (Nat.le_refl _)
      generalize lay t7 h9.size (3, 0) = t at st10 t10
      have hne : mb ≠ h9.size := fun e => by have := st9.mp.lt; omega
      refine ⟨fun (s : Int) h' => St h4 b mb (fun i => actW (X i) (q i)) t h' D K ∧ ∃ (n : Nat) (left : List (Int × Nat)), s = n ∧ (∀ x ∈ left, x ∈ K) ∧ n + (left.filter (torn (zn : Int) (pn : Int) D)).length = (K.filter (torn (zn : Int) (pn : Int) D)).length ∧ IterL h' h9.size mb .u32 (fun i => actW (X i) (q i)) left, fun _ h' => leftN h' h9.size mb, ⟨st10, 0, K, rfl, fun x hx => hx, Nat.zero_add _, it10⟩, ?_⟩
      rintro s j h11 ⟨st11, n, left, rfl, hin, hnum, it11⟩
      refine nx_of it11 hne (fun hnil => ?_) (fun l1 x l2 h12 hll it12 o12 => ?_)
      · subst hnil
        simp only [List.filter_nil, List.length_nil, Nat.add_zero] at hnum
        refine ln_of undM st11.mp.mapB ⟨?_, n04.trans st11.bs.new⟩
        have ez : IntKind.wrap .i64 ((L.length : Int) + (n : Int)) = (K.length : Int) := by rw [wr64 (by omega) (by omega)]; omega
        rw [ez]
        simp
      · have hl12 := it11.left
        refine en_of it12 ?_
        have st12 : St h4 b mb (fun i => actW (X i) (q i)) t h12 D K := St.turn st11 t10 o12 (st11.mp.only o12 hne)
        have hxK : x ∈ K := hin x (by rw [hll]; simp)
        obtain ⟨_, hx0, hx1, hx2⟩ := Keep.Kept.get gk7 d7 k7 x hxK
        refine ldAgg_blk ((zn : Int), (pn : Int), gb) (b1.new st12.bs.new) ⟨rfl, rfl, rfl, trivial⟩ (call_of (get_ok gk7 gb x.1 ⟨hx0, hx1⟩ h12 st12.dev) ?_)
        rintro v h13 ⟨a13, c13, e13, l13, rfl, he13, g13⟩
        have htorn : torn (zn : Int) (pn : Int) D x = decide ((getM zn pn D x.1).2.2 = 6) := rfl
        generalize getM zn pn D x.1 = G at he13 g13 htorn ⊢
        refine ⟨(G.1, (a13, G.2.1.length, c13), e13), rfl, new_stL (by rw [zeroHd]; rfl) fun h14 b14 n14 s14 => call_of (fis_ok e13 l13 G.2.2 6 h14 (he13.new n14)) ?_⟩
        rintro v h' ⟨rfl, hh⟩; subst h'
        have n1214 := g13.new.trans n14
        have it14 := it12.next.new n1214
        have hl14 := it14.left
        have st14 := St.new st12 n1214
        have hll' : left.length = (l1 ++ l2).length + 1 := by rw [hll]; simp; omega
        have hmes : leftN h14 h9.size mb < leftN h11 h9.size mb := by omega
        have hsub : ∀ y ∈ l1 ++ l2, y ∈ K := fun y hy => hin y (by
          rw [hll]
          rcases List.mem_append.1 hy with hy | hy
          · exact List.mem_append.2 (.inl hy)
          · exact List.mem_append.2 (.inr (.tail _ hy)))
        have hnum' : n + ((l1 ++ l2).filter (torn (zn : Int) (pn : Int) D)).length + (if torn (zn : Int) (pn : Int) D x = true then 1 else 0) = (K.filter (torn (zn : Int) (pn : Int) D)).length := by
          rw [← hnum, hll, List.filter_append, List.filter_append, List.length_append, List.length_append]
          by_cases hx : torn (zn : Int) (pn : Int) D x = true
          · rw [List.filter_cons_of_pos hx, if_pos hx, List.length_cons]; omega
          · rw [List.filter_cons_of_neg hx, if_neg hx]; omega
        refine ⟨_, rfl, br_of (fun hb => ?_) (fun hb => ?_)⟩
        · have hb : G.2.2 = 6 := by simpa using hb
          have hle : (K.filter (torn (zn : Int) (pn : Int) D)).length ≤ 100000 := Nat.le_trans (List.length_filter_le _ _) hKlen
          rw [if_pos (by rw [htorn]; exact decide_eq_true hb)] at hnum'
          have ez : IntKind.wrap .i64 ((n : Int) + 1) = ((n + 1 : Nat) : Int) := (by first | (rw [wr64 (by omega) (by omega)]; omega) | (simp only [IntKind.wrap_i64]; omega))
          simp only [ez]
          exact ⟨⟨st14, n + 1, l1 ++ l2, rfl, hsub, by omega, it14⟩, hmes⟩
        · have hb : ¬ G.2.2 = 6 := by simpa using hb
          rw [if_neg (by rw [htorn]; simpa using hb)] at hnum'
          exact ⟨⟨st14, n, l1 ++ l2, rfl, hsub, by omega, it14⟩, hmes⟩
end Go.Proofs.YtgohecjnjadnpaaDoor.MedK
