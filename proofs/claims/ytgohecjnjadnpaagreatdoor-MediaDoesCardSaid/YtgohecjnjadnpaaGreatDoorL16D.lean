/-
  What MediaDoes of layer 16 comes to.
-/
import Derived.Test.YtgohecjnjadnpaaGreatDoorR16
import Derived.Test.YtgohecjnjadnpaaGreatDoorWL16D
namespace Go.Proofs.YtgohecjnjadnpaaGreatDoor.L16D
open Go.Pl Go.Proofs.YtgohecjnjadnpaaGreatDoor.W Go.Proofs.YtgohecjnjadnpaaGreatDoor.Byts Go.Proofs.YtgohecjnjadnpaaGreatDoor.As Go.Proofs.YtgohecjnjadnpaaGreatDoor.Err Go.Proofs.YtgohecjnjadnpaaGreatDoor.Head Go.Proofs.YtgohecjnjadnpaaGreatDoor.HdP Go.Proofs.YtgohecjnjadnpaaGreatDoor.Zns Go.Proofs.YtgohecjnjadnpaaGreatDoor.Geo Go.Proofs.YtgohecjnjadnpaaGreatDoor.Med Go.Proofs.YtgohecjnjadnpaaGreatDoor.MedA Go.Proofs.YtgohecjnjadnpaaGreatDoor.R16
abbrev ptr (b : Nat) : Value := .pointer (some ⟨b, 0, none⟩)
abbrev PRep := DRep LoP
theorem own2 : ∀ p : Nat × Nat, p.1 = 0 → p.1 ≠ 2 := fun p h e => by omega
theorem fr0b : ∀ p : Nat × Nat, p.1 = 0 → p.1 ≠ 2 := own2
/-- A block of the law's own. -/
structure Loc (t : Tags) (h : Heap) (g : Nat) (A : Array Value) (T : TypeId) : Prop where
  blk : Blk h g A T
  tag : t g = (3, 0)
theorem Loc.lt {t : Tags} {h : Heap} {g : Nat} {A : Array Value} {T : TypeId} (l : Loc t h g A T) : g < h.size := l.blk.lt
theorem Loc.here {t : Tags} {h h' : Heap} {A : Array Value} {T : TypeId} (b : Blk h' h.size A T) : Loc (lay t h.size (3, 0)) h' h.size A T := ⟨b, lay_ge (Nat.le_refl _)⟩
theorem Loc.alloc {t : Tags} {h h' : Heap} {g : Nat} {A : Array Value} {T : TypeId} (l : Loc t h g A T) (n : New h h') : Loc (lay t h.size (3, 0)) h' g A T := ⟨l.blk.new n, by rw [lay_lt l.blk.lt]; exact l.tag⟩
theorem Loc.fr1 {t t' : Tags} {h h' : Heap} {g : Nat} {A : Array Value} {T : TypeId} (l : Loc t h g A T) (f : Fr (fun p => p.1 ≠ 1) t h t' h') : Loc t' h' g A T := ⟨f.blk l.blk (by rw [l.tag]; decide), by rw [f.tags g l.blk.lt]; exact l.tag⟩
theorem Loc.fr2 {t t' : Tags} {h h' : Heap} {g : Nat} {A : Array Value} {T : TypeId} (l : Loc t h g A T) (f : Fr (fun p => p.1 ≠ 2) t h t' h') : Loc t' h' g A T := ⟨f.blk l.blk (by rw [l.tag]; decide), by rw [f.tags g l.blk.lt]; exact l.tag⟩
theorem Loc.only {t : Tags} {h h' : Heap} {g c : Nat} {A : Array Value} {T : TypeId} (l : Loc t h g A T) (o : Only c h h') (hne : g ≠ c) : Loc t h' g A T := ⟨l.blk.only o hne, l.tag⟩
theorem Im.alloc {k : IntKind} {t : Tags} {h h' : Heap} {a : Option Addr} {xs : List Int} (i : Im k t h a xs) (n : New h h') : Im k (lay t h.size (3, 0)) h' a xs := i.fr (S := fun _ => True) (Fr.lay n _) fun _ _ => trivial
theorem locS {t : Tags} {h h' : Heap} {g : Nat} (o : Only g h h') (tg : t g = (3, 0)) : Fr (fun p => p.1 ≠ 3) t h t h' := Fr.upd o.upd fun hn => hn (by rw [tg])
theorem Im.loc {k : IntKind} {t : Tags} {h h' : Heap} {a : Option Addr} {xs : List Int} (i : Im k t h a xs) {g : Nat} (o : Only g h h') (tg : t g = (3, 0)) : Im k t h' a xs := i.fr (locS o tg) fun p hp e => by omega
/-- Two devices, the act, and the geometry. -/
structure DS (h0 : Heap) (t : Tags) (h : Heap) (bp br_ : Nat) (Dp Dr : Dev) (q : Nat) (x : MedA.Act) (ba ka ta : Option Addr) (bc kc tc : Nat) (gq : Nat) (z p g : Int) : Prop where
  bs : Bs h0 t h
  rp : PRep 1 t h bp Dp
  rr : RRep 2 t h br_ Dr
  bq : Loc t h q (actA x ba ka ta bc kc tc) 47
  geo : Blk h0 gq #[.int .i64 z, .int .i64 p, .int .i64 g] 23
section
variable {h0 : Heap} {t : Tags} {h : Heap} {bp br_ : Nat} {Dp Dr D : Dev} {q : Nat} {x : MedA.Act} {ba ka ta : Option Addr} {bc kc tc : Nat} {gq : Nat} {z p g : Int}
theorem DS.alloc (s : DS h0 t h bp br_ Dp Dr q x ba ka ta bc kc tc gq z p g) {h' : Heap} (n : New h h') : DS h0 (lay t h.size (3, 0)) h' bp br_ Dp Dr q x ba ka ta bc kc tc gq z p g :=
  ⟨s.bs.fr (S := fun _ => True) (Fr.lay n _) fun _ _ => trivial, s.rp.fr (S := fun _ => True) (Fr.lay n _) (fun _ _ => trivial) fun _ => trivial, s.rr.fr (S := fun _ => True) (Fr.lay n _) (fun _ _ => trivial) fun _ => trivial, s.bq.alloc n, s.geo⟩
theorem DS.new (s : DS h0 t h bp br_ Dp Dr q x ba ka ta bc kc tc gq z p g) {h' : Heap} (n : New h h') : DS h0 t h' bp br_ Dp Dr q x ba ka ta bc kc tc gq z p g := ⟨s.bs.newer n, s.rp.new n, s.rr.new n, ⟨s.bq.blk.new n, s.bq.tag⟩, s.geo⟩
theorem DS.loc (s : DS h0 t h bp br_ Dp Dr q x ba ka ta bc kc tc gq z p g) {h' : Heap} {c : Nat} (o : Only c h h') (tg : t c = (3, 0)) (hg : q ≠ c) : DS h0 t h' bp br_ Dp Dr q x ba ka ta bc kc tc gq z p g :=
  ⟨s.bs.fr (locS o tg) fun p hp e => by omega, s.rp.fr (locS o tg) (fun p hp e => by omega) fun j => (by decide : (1 : Nat) ≠ 3), s.rr.fr (locS o tg) (fun p hp e => by omega) fun j => (by decide : (2 : Nat) ≠ 3), s.bq.only o hg, s.geo⟩
theorem DS.six (s : DS h0 t h bp br_ Dp Dr q x ba ka ta bc kc tc gq z p g) : cellH h (Addr.add ⟨q, 0, none⟩ 0) = some (.int .i64 x.op) ∧ cellH h (Addr.add ⟨q, 0, none⟩ 1) = some (.int .i64 x.zone) ∧ cellH h (Addr.add ⟨q, 0, none⟩ 2) = some (.int .u32 x.addr) ∧ cellH h (Addr.add ⟨q, 0, none⟩ 3) = some (.int .u8 x.hd.1) ∧ cellH h (Addr.add ⟨q, 0, none⟩ 4) = some (.int .u32 x.hd.2.1) ∧ cellH h (Addr.add ⟨q, 0, none⟩ 5) = some (.int .u32 x.hd.2.2.1) ∧ cellH h (Addr.add ⟨q, 0, none⟩ 6) = some (.int .u32 x.hd.2.2.2) ∧ cellH h (Addr.add ⟨q, 0, none⟩ 7) = some (.slice ba x.b.length bc) ∧ cellH h (Addr.add ⟨q, 0, none⟩ 8) = some (.slice ka x.keep.length kc) ∧ cellH h (Addr.add ⟨q, 0, none⟩ 9) = some (.slice ta x.tear.length tc) ∧ cellH h (Addr.add ⟨gq, 0, none⟩ 0) = some (.int .i64 z) ∧ cellH h (Addr.add ⟨gq, 0, none⟩ 1) = some (.int .i64 p) ∧ cellH h (Addr.add ⟨gq, 0, none⟩ 2) = some (.int .i64 g) := by
  have b := s.bq.blk
  have b2 := s.geo.new s.bs.new
  refine ⟨?_, ?_, ?_, ?_, ?_, ?_, ?_, ?_, ?_, ?_, ?_, ?_, ?_⟩ <;> rw [add_mk] <;> first | (rw [cellH_blk b]; rfl) | (rw [cellH_blk b2]; rfl)
theorem do_st (gk : GOk z p D) (s : DS h0 t h bp br_ D Dr q x ba ka ta bc kc tc gq z p g) (i : ActIn h0 x ba bc ka ta) : CallsH Tryz.prog 11 [ptr bp, geoV z p g, actV x ba ka ta bc kc tc] h fun v h' =>
    ∃ a c t', v = .agg (toldA (act z p D x).2.a (act z p D x).2.hd a (act z p D x).2.b.length c (act z p D x).2.e) ∧ DS h0 t' h' bp br_ (act z p D x).1 Dr q x ba ka ta bc kc tc gq z p g ∧ Fr (fun p => p.1 ≠ 1) t h t' h' ∧ Im .u8 t' h' a (act z p D x).2.b := by
  refine (do_ok gk g x ba ka ta bc kc tc h s.bs i s.rp (by decide)).mono ?_
  rintro v h' ⟨a, c, t', rfl, r', f', im⟩
  exact ⟨a, c, t', rfl, ⟨s.bs.own (by decide) f', r', s.rr.fr f' own1 (fun j => (by decide : (2 : Nat) ≠ 1)), s.bq.fr1 f', s.geo⟩, f', im⟩
theorem own_st (gk : GOk z p D) (s : DS h0 t h bp br_ Dp D q x ba ka ta bc kc tc gq z p g) (i : ActIn h0 x ba bc ka ta) : CallsH Tryz.prog 12 [ptr br_, geoV z p g, actV x ba ka ta bc kc tc] h fun v h' =>
    ∃ a c t', v = .agg (toldA (act z p D x).2.a (act z p D x).2.hd a (act z p D x).2.b.length c (act z p D x).2.e) ∧ DS h0 t' h' bp br_ Dp (act z p D x).1 q x ba ka ta bc kc tc gq z p g ∧ Fr (fun p => p.1 ≠ 2) t h t' h' ∧ Im .u8 t' h' a (act z p D x).2.b := by
  refine (own_ok gk g x ba ka ta bc kc tc h s.bs i s.rr (by decide)).mono ?_
  rintro v h' ⟨a, c, t', rfl, r', f', im⟩
  exact ⟨a, c, t', rfl, ⟨s.bs.own (by decide) f', s.rp.fr f' own2 (fun j => (by decide : (1 : Nat) ≠ 2)), r', s.bq.fr2 f', s.geo⟩, f', im⟩
end
theorem told_set {h : Heap} {g : Nat} {vs : List Value} {T : TypeId} (b : Blk h g (setsA (zeroC Tryz.prog 50) 0 vs) T) (hl : vs.length = 7 := by rfl) : Blk h g vs.toArray T := by
  rw [setsA_all (by rw [zeroT, hl]; rfl)] at b; exact b
theorem hd_eqR (x y : Hd) : ∀ w, (Op.equal 48 (hdV x) (hdV y)).run Tryz.prog w = .ok (decide (x = y)) w := fun w => hd_eqIn 48 (by kernel_rfl) (by kernel_rfl) (by kernel_rfl) 9998 x y w
theorem readF_len (p : List Int) : (readF p).2.1.length ≤ p.length := by
  unfold readF
  repeat' split
  all_goals simp
theorem getM_len (z p : Int) (D : Dev) (o : DevOk D) (a : Int) : (getM z p D a).2.1.length ≤ 1000 := by
  unfold getM
  split
  · simp
  split
  · simp
  · refine Nat.le_trans (readF_len _) ?_
    unfold Dev.read
    split
    · simp
    split
    · simp
    split
    · simp
    split
    · simp
    · rw [List.getD_eq_getElem?_getD]
      generalize (atF z p a).2.1 = q
      cases hq : (D.at_ (atF z p a).1).pages[q.toNat]? with
      | none => simp
      | some pg =>
        rcases ((o.at_ (atF z p a).1).page pg (List.mem_of_getElem? hq)).2 with e | e
        · simp [e]
        · simp [e]
theorem act_told {z p : Int} {D : Dev} (o : DevOk D) (x : MedA.Act) : (act z p D x).2.b.length ≤ 1000 := by
  unfold act
  split
  · simp
  split
  · exact getM_len z p D o x.addr
  split
  · simp
  split
  · simp
  split
  · simp [no]
  split
  · simp [no]
  · simp [no]
theorem geo_in {h : Heap} {v : Value} {x : Int × Int × Int} (r : ReadsV h GeoS v x) : v = geoV x.1 x.2.1 x.2.2 := by
  obtain ⟨cs, rfl, c1, d1, rfl, ⟨rfl, _⟩, c2, d2, rfl, ⟨rfl, _⟩, ⟨rfl, _⟩⟩ := r
  rfl
theorem notLarge {l : List ActT} (h : isLarge l = false) : l.length ≤ 100 ∧ ∀ x ∈ l, small (actOf x) := by
  unfold isLarge at h; simpa using h
theorem alls_len {z p : Int} {D : Dev} (g : GOk z p D) : (alls z p D).length ≤ 352 := by
  have h1 := preI_len g (z - 2).toNat 0
  rw [preI_zero] at h1
  have := g.zr
  have e : preZ p D (z - 2).toNat = alls z p D := rfl
  rw [e] at h1; omega
theorem scan_len {z p : Int} {D : Dev} (g : GOk z p D) : (scanM z p D).length ≤ 352 := Nat.le_trans (fl_le z p D _) (alls_len g)
set_option maxHeartbeats 1000000 in
theorem does_law (h : Heap) (v0 v1 v2 : Value) (g other : Int × Int × Int) (l : List ActT) (r0 : ReadsV h GeoS v0 g) (r1 : ReadsV h GeoS v1 other) (r2 : ReadsV h (.slice ActS) v2 l) (hg : Laid h) :
    CallsH Tryz.prog 3 [v0, v1, v2] h fun v h' => v = .bool true ∧ New h h' := by
  obtain rfl := geo_in r0
  obtain rfl := geo_in r1
  obtain ⟨la, lc, rfl, _, _, _, sl⟩ := SlAt.reads r2
  obtain ⟨z, p, gb⟩ := g
  obtain ⟨oz, op, ob⟩ := other
  refine fun_ok Geo.hm' Tryz.func3 (by kernel_rfl) (F3_eq _ _ _ _ _ _ _ _ _ _ h) ?_
  unfold F3
  refine new_of fun h1 b1 n1 s1 => new_of fun h2 b2 n2 s2 => call_of (awake_ok h2 (hg.new (n1.trans n2))) ?_
  rintro v h3 ⟨rfl, n3⟩
  have n03 := (n1.trans n2).trans n3
  have b1 : Blk h3 h.size #[.int .i64 z, .int .i64 p, .int .i64 gb] 23 := (b1.new n2).new n3
  have b2 : Blk h3 h1.size #[.int .i64 oz, .int .i64 op, .int .i64 ob] 23 := b2.new n3
  refine ⟨true, rfl, br_f rfl (cut_q (ts := []) (fun _ h' => New h3 h' ∧ rightB z p gb = true ∧ isLarge l = false) ?_ ?_)⟩
  rotate_left
  · intro K hK
    refine ldAgg_blk (z, p, gb) b1 ⟨rfl, rfl, rfl, trivial⟩ (call_of (R2.rright_ok z p gb h3) ?_)
    rintro v h4 ⟨rfl, n4⟩
    refine ⟨_, rfl, br_of (fun hr => ⟨rfl, n03.trans n4⟩) fun hr => call_of (large_ok la lc l h4 (sl.new (n03.trans n4))) ?_⟩
    rintro v h5 ⟨rfl, n5⟩
    have n05 := (n03.trans n4).trans n5
    exact ⟨_, rfl, br_of (fun hl => ⟨rfl, n05⟩) fun hl => hK _ _ ⟨n4.trans n5, by simpa using hr, by simpa using hl⟩⟩
  rintro _ h4 ⟨n4, hr, hl⟩ _
  have b1 := b1.new n4
  have b2 := b2.new n4
  have n04 := n03.trans n4
  obtain ⟨hz, hp, _, _⟩ := right_facts hr
  have hl100 := (notLarge hl).1
  obtain ⟨zn, rfl⟩ := Int.eq_ofNat_of_zero_le (show 0 ≤ z by omega)
  obtain ⟨pn, rfl⟩ := Int.eq_ofNat_of_zero_le (show 0 ≤ p by omega)
  refine ld_of (c := .int .i64) (zn : Int) (by rw [add_mk, cellH_blk b1]; rfl) (ld_of (c := .int .i64) (pn : Int) (by rw [add_mk, cellH_blk b1]; rfl) (call_of (ZnsP.new_ok 1 (by decide) (fun _ => (0, 0)) zn pn h4 (by omega) (by omega)) ?_))
  rintro v h5 ⟨bp, rfl, n5, _, t5, ht5, rp5⟩
  have gk5 : GOk (zn : Int) (pn : Int) (Dev.empty zn pn) := ⟨by omega, by omega, by simp [Dev.empty], rfl, DevOk.empty (by omega) (by omega)⟩
  have bs5 : Bs h4 t5 h5 := (Bs.start (hg.new n04)).tags n5 ht5
  refine ⟨(some ⟨bp, 0, none⟩, errV 0), rfl, ld_of (c := .int .i64) (zn : Int) (by rw [add_mk, cellH_blk (b1.new n5)]; rfl) (ld_of (c := .int .i64) (pn : Int) (by rw [add_mk, cellH_blk (b1.new n5)]; rfl) (call_of (ZnsR.new_ok 2 (by decide) t5 zn pn h5 (by omega) (by omega)) ?_))⟩
  rintro v h6 ⟨br_, rfl, n6, _, t6, ht6, rr6⟩
  have bs6 := bs5.tags n6 ht6
  have rp6 : PRep 1 t6 h6 bp (Dev.empty zn pn) := rp5.fr (S := fun _ => True) ⟨n6.size, ht6, fun b hb _ => n6.same b hb⟩ (fun _ _ => trivial) fun _ => trivial
  have rr6 : RRep 2 t6 h6 br_ (Dev.empty zn pn) := rr6
  generalize Dev.empty zn pn = D6 at rp6 rr6 gk5
  refine ⟨(some ⟨br_, 0, none⟩, (0 : Int)), rfl, cut_q (ts := []) (fun _ h' => New h6 h') ?_ ?_⟩
  rotate_left
  · intro K hK
    have b26 := b2.new bs6.new
    refine br_f rfl (br_f rfl (ldAgg_blk (oz, op, ob) b26 ⟨rfl, rfl, rfl, trivial⟩ (ldAgg_blk (oz, op, ob) b26 ⟨rfl, rfl, rfl, trivial⟩ (call_of (fits_ok oz op ob h6 rp6) ?_))))
    rintro v h7 ⟨rfl, n7⟩
    have b27 := b26.new n7
    refine ⟨_, rfl, by rw [add_mk, cellH_blk b27]; rfl, by rw [add_mk, cellH_blk b27]; rfl, by rw [add_mk, cellH_blk b27]; rfl, call_of (rfits_ok oz op ob h7 (rr6.new n7)) ?_⟩
    rintro v h8 ⟨rfl, n8⟩
    exact ⟨_, rfl, br_f (by simp) (hK () _ (n7.trans n8))⟩
  rintro _ h7 n7 _
  refine ⟨fun (s : Int) h' => ∃ (i : Nat) (D : Dev) (t : Tags), s = i ∧ i ≤ l.length ∧ GOk (zn : Int) (pn : Int) D ∧ Bs h4 t h' ∧ PRep 1 t h' bp D ∧ RRep 2 t h' br_ D, fun (s : Int) _ => ((l.length : Int) - s).toNat, ⟨0, D6, t6, rfl, Nat.zero_le _, gk5, bs6.newer n7, rp6.new n7, rr6.new n7⟩, ?_⟩
  rintro s j h1' ⟨i, D, t, rfl, hi, gk, bs1, rp1, rr1⟩
  refine br_of (fun hlt => ?_) (fun hlt => ?_)
  rotate_left
  · have b11 := b1.new bs1.new
    refine ldAgg_blk ((zn : Int), (pn : Int), gb) b11 ⟨rfl, rfl, rfl, trivial⟩ (ldAgg_blk ((zn : Int), (pn : Int), gb) b11 ⟨rfl, rfl, rfl, trivial⟩ (call_of (scan_ok gk gb h1' rp1) ?_))
    rintro v h8 ⟨⟨a8, c8, rfl, ow8⟩, n8⟩
    have hlen := scan_len gk
    have b18 := b11.new n8
    refine ⟨(a8, _, c8), rfl, by rw [add_mk, cellH_blk b18]; rfl, by rw [add_mk, cellH_blk b18]; rfl, by rw [add_mk, cellH_blk b18]; rfl, call_of (pages_ok h8 a8 c8 _ (by omega) (PR.own ow8)) ?_⟩
    rintro v h9 ⟨a9, c9, rfl, row9, n9⟩
    have b19 := b18.new n9
    refine ⟨(a9, _, c9), rfl, by rw [add_mk, cellH_blk b19]; rfl, by rw [add_mk, cellH_blk b19]; rfl, by rw [add_mk, cellH_blk b19]; rfl, call_of (rscan_ok gk gb h9 (rr1.new (n8.trans n9))) ?_⟩
    rintro v h10 ⟨a10, c10, rfl, row10, n10⟩
    refine ⟨(a10, _, c10), rfl, call_of (rsame_ok h10 a9 a10 c9 c10 _ _ _ _ rfl rfl (by omega) ((PR.row row9).new n10) (PR.row row10)) ?_⟩
    rintro v h' ⟨rfl, hh⟩; subst h'
    have n110 := (n8.trans n9).trans n10
    have rr10 := rr1.new n110
    obtain ⟨za, c, arr, d⟩ := rr10
    refine ⟨true, by rw [decide_eq_true rfl] <;> rfl, br_t rfl (ptr_of (ld_of (c := .int .i64) D.ops d.co (call_of (ZnsP.ops_ok h10 (rp1.new n110)) ?_)))⟩
    rintro v h' ⟨rfl, hh⟩; subst h'
    exact ⟨D.ops, rfl, d.co, by simp, n04.trans (bs1.newer n110).new⟩
  have hlt : (i : Int) < (l.length : Int) := of_decide_eq_true hlt
  have hlt : i < l.length := by omega
  obtain ⟨ba, bc, ka, kc, ta, tc, hin, ld⟩ := act_at sl (n04.trans bs1.new) hlt
  refine ld hlt (new_of fun h2' b2' n2' s2' => ?_)
  refine stL_blk b2' (by rw [zeroAct]; exact Nat.le_refl 10) fun h3 b3 o3 => ?_
  have b3 : Blk h3 h1'.size (actA (actOf l[i]) ba ka ta bc kc tc) 47 := by rw [setsA_all (by rw [zeroAct]; rfl)] at b3; exact b3
  have n13 : New h1' h3 := o3.upd.new n2' (Nat.le_refl _)
  generalize actOf l[i] = x at hin b3
  have S0 : DS h4 (lay t h1'.size (3, 0)) h3 bp br_ D D h1'.size x ba ka ta bc kc tc h.size (zn : Int) (pn : Int) gb := ⟨bs1.fr (S := fun _ => True) (Fr.lay n13 _) fun _ _ => trivial, rp1.fr (S := fun _ => True) (Fr.lay n13 _) (fun _ _ => trivial) fun _ => trivial, rr1.fr (S := fun _ => True) (Fr.lay n13 _) (fun _ _ => trivial) fun _ => trivial, ⟨b3, lay_ge (Nat.le_refl _)⟩, b1⟩
  generalize lay t h1'.size (3, 0) = tt at S0
  generalize hzz : (zn : Int) = z at *
  generalize hpp : (pn : Int) = p at *
  refine cut_q (ts := [.sc .ptr, .sc .ptr]) (fun (s : Option Addr × Option Addr) h' => ∃ gA gB a1 c1 a2 c2 t', s = (some ⟨gA, 0, none⟩, some ⟨gB, 0, none⟩) ∧ Blk h' gA (toldA (act z p D x).2.a (act z p D x).2.hd a1 (act z p D x).2.b.length c1 (act z p D x).2.e) 50 ∧ Blk h' gB (toldA (act z p D x).2.a (act z p D x).2.hd a2 (act z p D x).2.b.length c2 (act z p D x).2.e) 50 ∧ DS h4 t' h' bp br_ (act z p D x).1 (act z p D x).1 h1'.size x ba ka ta bc kc tc h.size z p gb ∧ Im .u8 t' h' a1 (act z p D x).2.b ∧ Im .u8 t' h' a2 (act z p D x).2.b) ?_ ?_
  rotate_left
  · intro K hK
    have sz := b3.lt
    have bg := S0.geo.new S0.bs.new
    have i := hin.new n04
    refine ldAgg_blk (z, p, gb) bg ⟨rfl, rfl, rfl, trivial⟩ (ldAct b3 (ldAgg_blk (z, p, gb) bg ⟨rfl, rfl, rfl, trivial⟩ (ldAct b3 ?_)))
    refine ⟨?_, ?_, ?_⟩
    · refine call_of (do_st gk S0 i) ?_
      rintro v k1 ⟨p1_1, p2_1, t1, rfl, S1, f1, im1_1⟩
      obtain ⟨q0_1, q1_1, q2_1, q3_1, q4_1, q5_1, q6_1, q7_1, q8_1, q9_1, q10_1, q11_1, q12_1⟩ := S1.six
      refine ⟨toldC (act z p D x).2.a (act z p D x).2.hd p1_1 (act z p D x).2.b.length p2_1 (act z p D x).2.e, rfl, q0_1, q1_1, q2_1, q3_1, q4_1, q5_1, q6_1, q7_1, q8_1, q9_1, q10_1, q11_1, q12_1, ?_⟩
      refine ⟨?_, ?_, ?_⟩
      · refine call_of (own_st gk S1 i) ?_
        rintro v k2 ⟨q1_2, q2_2, t2, rfl, S2, f2, im2_2⟩
        have im1_2 := Im.fr im1_1 f2 fr0b
        refine ⟨toldC (act z p D x).2.a (act z p D x).2.hd q1_2 (act z p D x).2.b.length q2_2 (act z p D x).2.e, rfl, ?_⟩
        refine ⟨?_, ?_⟩
        · refine new_of fun k3 b3 n3 z3 => ?_
          have S3 := S2.alloc n3
          have im1_3 := Im.alloc im1_2 n3
          have im2_3 := Im.alloc im2_2 n3
          have LA_3 := Loc.here (t := t2) b3
          have sq_3 := S2.bq.lt
          refine new_of fun k4 b4 n4 z4 => ?_
          have S4 := S3.alloc n4
          have im1_4 := Im.alloc im1_3 n4
          have im2_4 := Im.alloc im2_3 n4
          have LA_4 := Loc.alloc LA_3 n4
          have LB_4 := Loc.here (t := (lay t2 k2.size (3, 0))) b4
          have lt_4 := LA_3.lt
          have sq_4 := S3.bq.lt
          refine stL_blk LA_4.blk (by rw [zeroT]; exact Nat.le_refl 7) fun k5 b5 o5 => ?_
          have b5 := told_set b5
          have S5 := S4.loc o5 LA_4.tag (by omega)
          have im1_5 := Im.loc im1_4 o5 LA_4.tag
          have im2_5 := Im.loc im2_4 o5 LA_4.tag
          have LB_5 := Loc.only LB_4 o5 (by omega)
          refine stL_blk LB_5.blk (by rw [zeroT]; exact Nat.le_refl 7) fun k6 b6 o6 => ?_
          have b6 := told_set b6
          have S6 := S5.loc o6 LB_5.tag (by omega)
          have im1_6 := Im.loc im1_5 o6 LB_5.tag
          have im2_6 := Im.loc im2_5 o6 LB_5.tag
          exact hK _ _ ⟨_, _, _, _, _, _, _, rfl, b5.only o6 (by omega), b6, S6, im1_6, im2_6⟩
        · refine new_of fun k7 b7 n7 z7 => ?_
          have S7 := S2.alloc n7
          have im1_7 := Im.alloc im1_2 n7
          have im2_7 := Im.alloc im2_2 n7
          have LB_7 := Loc.here (t := t2) b7
          have sq_7 := S2.bq.lt
          refine new_of fun k8 b8 n8 z8 => ?_
          have S8 := S7.alloc n8
          have im1_8 := Im.alloc im1_7 n8
          have im2_8 := Im.alloc im2_7 n8
          have LB_8 := Loc.alloc LB_7 n8
          have LA_8 := Loc.here (t := (lay t2 k2.size (3, 0))) b8
          have lt_8 := LB_7.lt
          have sq_8 := S7.bq.lt
          refine stL_blk LA_8.blk (by rw [zeroT]; exact Nat.le_refl 7) fun k9 b9 o9 => ?_
          have b9 := told_set b9
          have S9 := S8.loc o9 LA_8.tag (by omega)
          have im1_9 := Im.loc im1_8 o9 LA_8.tag
          have im2_9 := Im.loc im2_8 o9 LA_8.tag
          have LB_9 := Loc.only LB_8 o9 (by omega)
          refine stL_blk LB_9.blk (by rw [zeroT]; exact Nat.le_refl 7) fun k10 b10 o10 => ?_
          have b10 := told_set b10
          have S10 := S9.loc o10 LB_9.tag (by omega)
          have im1_10 := Im.loc im1_9 o10 LB_9.tag
          have im2_10 := Im.loc im2_9 o10 LB_9.tag
          exact hK _ _ ⟨_, _, _, _, _, _, _, rfl, b9.only o10 (by omega), b10, S10, im1_10, im2_10⟩
      · refine new_of fun k11 b11 n11 z11 => ?_
        have S11 := S1.alloc n11
        have im1_11 := Im.alloc im1_1 n11
        have LA_11 := Loc.here (t := t1) b11
        have sq_11 := S1.bq.lt
        refine ⟨?_, ?_⟩
        · refine call_of (own_st gk S11 i) ?_
          rintro v k12 ⟨q1_12, q2_12, t12, rfl, S12, f12, im2_12⟩
          have im1_12 := Im.fr im1_11 f12 fr0b
          have LA_12 := Loc.fr2 LA_11 f12
          refine ⟨toldC (act z p D x).2.a (act z p D x).2.hd q1_12 (act z p D x).2.b.length q2_12 (act z p D x).2.e, rfl, ?_⟩
          refine new_of fun k13 b13 n13 z13 => ?_
          have S13 := S12.alloc n13
          have im1_13 := Im.alloc im1_12 n13
          have im2_13 := Im.alloc im2_12 n13
          have LA_13 := Loc.alloc LA_12 n13
          have LB_13 := Loc.here (t := t12) b13
          have lt_13 := LA_12.lt
          have sq_13 := S12.bq.lt
          refine stL_blk LA_13.blk (by rw [zeroT]; exact Nat.le_refl 7) fun k14 b14 o14 => ?_
          have b14 := told_set b14
          have S14 := S13.loc o14 LA_13.tag (by omega)
          have im1_14 := Im.loc im1_13 o14 LA_13.tag
          have im2_14 := Im.loc im2_13 o14 LA_13.tag
          have LB_14 := Loc.only LB_13 o14 (by omega)
          refine stL_blk LB_14.blk (by rw [zeroT]; exact Nat.le_refl 7) fun k15 b15 o15 => ?_
          have b15 := told_set b15
          have S15 := S14.loc o15 LB_14.tag (by omega)
          have im1_15 := Im.loc im1_14 o15 LB_14.tag
          have im2_15 := Im.loc im2_14 o15 LB_14.tag
          exact hK _ _ ⟨_, _, _, _, _, _, _, rfl, b14.only o15 (by omega), b15, S15, im1_15, im2_15⟩
        · refine new_of fun k16 b16 n16 z16 => ?_
          have S16 := S11.alloc n16
          have im1_16 := Im.alloc im1_11 n16
          have LA_16 := Loc.alloc LA_11 n16
          have LB_16 := Loc.here (t := (lay t1 k1.size (3, 0))) b16
          have lt_16 := LA_11.lt
          have sq_16 := S11.bq.lt
          refine call_of (own_st gk S16 i) ?_
          rintro v k17 ⟨q1_17, q2_17, t17, rfl, S17, f17, im2_17⟩
          have im1_17 := Im.fr im1_16 f17 fr0b
          have LA_17 := Loc.fr2 LA_16 f17
          have LB_17 := Loc.fr2 LB_16 f17
          refine ⟨toldC (act z p D x).2.a (act z p D x).2.hd q1_17 (act z p D x).2.b.length q2_17 (act z p D x).2.e, rfl, ?_⟩
          refine stL_blk LA_17.blk (by rw [zeroT]; exact Nat.le_refl 7) fun k18 b18 o18 => ?_
          have b18 := told_set b18
          have S18 := S17.loc o18 LA_17.tag (by omega)
          have im1_18 := Im.loc im1_17 o18 LA_17.tag
          have im2_18 := Im.loc im2_17 o18 LA_17.tag
          have LB_18 := Loc.only LB_17 o18 (by omega)
          refine stL_blk LB_18.blk (by rw [zeroT]; exact Nat.le_refl 7) fun k19 b19 o19 => ?_
          have b19 := told_set b19
          have S19 := S18.loc o19 LB_18.tag (by omega)
          have im1_19 := Im.loc im1_18 o19 LB_18.tag
          have im2_19 := Im.loc im2_18 o19 LB_18.tag
          exact hK _ _ ⟨_, _, _, _, _, _, _, rfl, b18.only o19 (by omega), b19, S19, im1_19, im2_19⟩
      · refine new_of fun k20 b20 n20 z20 => ?_
        have S20 := S1.alloc n20
        have im1_20 := Im.alloc im1_1 n20
        have LB_20 := Loc.here (t := t1) b20
        have sq_20 := S1.bq.lt
        refine ⟨?_, ?_⟩
        · refine call_of (own_st gk S20 i) ?_
          rintro v k21 ⟨q1_21, q2_21, t21, rfl, S21, f21, im2_21⟩
          have im1_21 := Im.fr im1_20 f21 fr0b
          have LB_21 := Loc.fr2 LB_20 f21
          refine ⟨toldC (act z p D x).2.a (act z p D x).2.hd q1_21 (act z p D x).2.b.length q2_21 (act z p D x).2.e, rfl, ?_⟩
          refine new_of fun k22 b22 n22 z22 => ?_
          have S22 := S21.alloc n22
          have im1_22 := Im.alloc im1_21 n22
          have im2_22 := Im.alloc im2_21 n22
          have LB_22 := Loc.alloc LB_21 n22
          have LA_22 := Loc.here (t := t21) b22
          have lt_22 := LB_21.lt
          have sq_22 := S21.bq.lt
          refine stL_blk LA_22.blk (by rw [zeroT]; exact Nat.le_refl 7) fun k23 b23 o23 => ?_
          have b23 := told_set b23
          have S23 := S22.loc o23 LA_22.tag (by omega)
          have im1_23 := Im.loc im1_22 o23 LA_22.tag
          have im2_23 := Im.loc im2_22 o23 LA_22.tag
          have LB_23 := Loc.only LB_22 o23 (by omega)
          refine stL_blk LB_23.blk (by rw [zeroT]; exact Nat.le_refl 7) fun k24 b24 o24 => ?_
          have b24 := told_set b24
          have S24 := S23.loc o24 LB_23.tag (by omega)
          have im1_24 := Im.loc im1_23 o24 LB_23.tag
          have im2_24 := Im.loc im2_23 o24 LB_23.tag
          exact hK _ _ ⟨_, _, _, _, _, _, _, rfl, b23.only o24 (by omega), b24, S24, im1_24, im2_24⟩
        · refine new_of fun k25 b25 n25 z25 => ?_
          have S25 := S20.alloc n25
          have im1_25 := Im.alloc im1_20 n25
          have LB_25 := Loc.alloc LB_20 n25
          have LA_25 := Loc.here (t := (lay t1 k1.size (3, 0))) b25
          have lt_25 := LB_20.lt
          have sq_25 := S20.bq.lt
          refine call_of (own_st gk S25 i) ?_
          rintro v k26 ⟨q1_26, q2_26, t26, rfl, S26, f26, im2_26⟩
          have im1_26 := Im.fr im1_25 f26 fr0b
          have LA_26 := Loc.fr2 LA_25 f26
          have LB_26 := Loc.fr2 LB_25 f26
          refine ⟨toldC (act z p D x).2.a (act z p D x).2.hd q1_26 (act z p D x).2.b.length q2_26 (act z p D x).2.e, rfl, ?_⟩
          refine stL_blk LA_26.blk (by rw [zeroT]; exact Nat.le_refl 7) fun k27 b27 o27 => ?_
          have b27 := told_set b27
          have S27 := S26.loc o27 LA_26.tag (by omega)
          have im1_27 := Im.loc im1_26 o27 LA_26.tag
          have im2_27 := Im.loc im2_26 o27 LA_26.tag
          have LB_27 := Loc.only LB_26 o27 (by omega)
          refine stL_blk LB_27.blk (by rw [zeroT]; exact Nat.le_refl 7) fun k28 b28 o28 => ?_
          have b28 := told_set b28
          have S28 := S27.loc o28 LB_27.tag (by omega)
          have im1_28 := Im.loc im1_27 o28 LB_27.tag
          have im2_28 := Im.loc im2_27 o28 LB_27.tag
          exact hK _ _ ⟨_, _, _, _, _, _, _, rfl, b27.only o28 (by omega), b28, S28, im1_28, im2_28⟩
    · refine new_of fun k29 b29 n29 z29 => ?_
      have S29 := S0.alloc n29
      have LA_29 := Loc.here (t := tt) b29
      have sq_29 := S0.bq.lt
      refine ⟨?_, ?_⟩
      · refine call_of (do_st gk S29 i) ?_
        rintro v k30 ⟨p1_30, p2_30, t30, rfl, S30, f30, im1_30⟩
        have LA_30 := Loc.fr1 LA_29 f30
        obtain ⟨q0_30, q1_30, q2_30, q3_30, q4_30, q5_30, q6_30, q7_30, q8_30, q9_30, q10_30, q11_30, q12_30⟩ := S30.six
        refine ⟨toldC (act z p D x).2.a (act z p D x).2.hd p1_30 (act z p D x).2.b.length p2_30 (act z p D x).2.e, rfl, q0_30, q1_30, q2_30, q3_30, q4_30, q5_30, q6_30, q7_30, q8_30, q9_30, q10_30, q11_30, q12_30, ?_⟩
        refine ⟨?_, ?_⟩
        · refine call_of (own_st gk S30 i) ?_
          rintro v k31 ⟨q1_31, q2_31, t31, rfl, S31, f31, im2_31⟩
          have im1_31 := Im.fr im1_30 f31 fr0b
          have LA_31 := Loc.fr2 LA_30 f31
          refine ⟨toldC (act z p D x).2.a (act z p D x).2.hd q1_31 (act z p D x).2.b.length q2_31 (act z p D x).2.e, rfl, ?_⟩
          refine new_of fun k32 b32 n32 z32 => ?_
          have S32 := S31.alloc n32
          have im1_32 := Im.alloc im1_31 n32
          have im2_32 := Im.alloc im2_31 n32
          have LA_32 := Loc.alloc LA_31 n32
          have LB_32 := Loc.here (t := t31) b32
          have lt_32 := LA_31.lt
          have sq_32 := S31.bq.lt
          refine stL_blk LA_32.blk (by rw [zeroT]; exact Nat.le_refl 7) fun k33 b33 o33 => ?_
          have b33 := told_set b33
          have S33 := S32.loc o33 LA_32.tag (by omega)
          have im1_33 := Im.loc im1_32 o33 LA_32.tag
          have im2_33 := Im.loc im2_32 o33 LA_32.tag
          have LB_33 := Loc.only LB_32 o33 (by omega)
          refine stL_blk LB_33.blk (by rw [zeroT]; exact Nat.le_refl 7) fun k34 b34 o34 => ?_
          have b34 := told_set b34
          have S34 := S33.loc o34 LB_33.tag (by omega)
          have im1_34 := Im.loc im1_33 o34 LB_33.tag
          have im2_34 := Im.loc im2_33 o34 LB_33.tag
          exact hK _ _ ⟨_, _, _, _, _, _, _, rfl, b33.only o34 (by omega), b34, S34, im1_34, im2_34⟩
        · refine new_of fun k35 b35 n35 z35 => ?_
          have S35 := S30.alloc n35
          have im1_35 := Im.alloc im1_30 n35
          have LA_35 := Loc.alloc LA_30 n35
          have LB_35 := Loc.here (t := t30) b35
          have lt_35 := LA_30.lt
          have sq_35 := S30.bq.lt
          refine call_of (own_st gk S35 i) ?_
          rintro v k36 ⟨q1_36, q2_36, t36, rfl, S36, f36, im2_36⟩
          have im1_36 := Im.fr im1_35 f36 fr0b
          have LA_36 := Loc.fr2 LA_35 f36
          have LB_36 := Loc.fr2 LB_35 f36
          refine ⟨toldC (act z p D x).2.a (act z p D x).2.hd q1_36 (act z p D x).2.b.length q2_36 (act z p D x).2.e, rfl, ?_⟩
          refine stL_blk LA_36.blk (by rw [zeroT]; exact Nat.le_refl 7) fun k37 b37 o37 => ?_
          have b37 := told_set b37
          have S37 := S36.loc o37 LA_36.tag (by omega)
          have im1_37 := Im.loc im1_36 o37 LA_36.tag
          have im2_37 := Im.loc im2_36 o37 LA_36.tag
          have LB_37 := Loc.only LB_36 o37 (by omega)
          refine stL_blk LB_37.blk (by rw [zeroT]; exact Nat.le_refl 7) fun k38 b38 o38 => ?_
          have b38 := told_set b38
          have S38 := S37.loc o38 LB_37.tag (by omega)
          have im1_38 := Im.loc im1_37 o38 LB_37.tag
          have im2_38 := Im.loc im2_37 o38 LB_37.tag
          exact hK _ _ ⟨_, _, _, _, _, _, _, rfl, b37.only o38 (by omega), b38, S38, im1_38, im2_38⟩
      · refine new_of fun k39 b39 n39 z39 => ?_
        have S39 := S29.alloc n39
        have LA_39 := Loc.alloc LA_29 n39
        have LB_39 := Loc.here (t := (lay tt h3.size (3, 0))) b39
        have lt_39 := LA_29.lt
        have sq_39 := S29.bq.lt
        refine call_of (do_st gk S39 i) ?_
        rintro v k40 ⟨p1_40, p2_40, t40, rfl, S40, f40, im1_40⟩
        have LA_40 := Loc.fr1 LA_39 f40
        have LB_40 := Loc.fr1 LB_39 f40
        obtain ⟨q0_40, q1_40, q2_40, q3_40, q4_40, q5_40, q6_40, q7_40, q8_40, q9_40, q10_40, q11_40, q12_40⟩ := S40.six
        refine ⟨toldC (act z p D x).2.a (act z p D x).2.hd p1_40 (act z p D x).2.b.length p2_40 (act z p D x).2.e, rfl, q0_40, q1_40, q2_40, q3_40, q4_40, q5_40, q6_40, q7_40, q8_40, q9_40, q10_40, q11_40, q12_40, ?_⟩
        refine call_of (own_st gk S40 i) ?_
        rintro v k41 ⟨q1_41, q2_41, t41, rfl, S41, f41, im2_41⟩
        have im1_41 := Im.fr im1_40 f41 fr0b
        have LA_41 := Loc.fr2 LA_40 f41
        have LB_41 := Loc.fr2 LB_40 f41
        refine ⟨toldC (act z p D x).2.a (act z p D x).2.hd q1_41 (act z p D x).2.b.length q2_41 (act z p D x).2.e, rfl, ?_⟩
        refine stL_blk LA_41.blk (by rw [zeroT]; exact Nat.le_refl 7) fun k42 b42 o42 => ?_
        have b42 := told_set b42
        have S42 := S41.loc o42 LA_41.tag (by omega)
        have im1_42 := Im.loc im1_41 o42 LA_41.tag
        have im2_42 := Im.loc im2_41 o42 LA_41.tag
        have LB_42 := Loc.only LB_41 o42 (by omega)
        refine stL_blk LB_42.blk (by rw [zeroT]; exact Nat.le_refl 7) fun k43 b43 o43 => ?_
        have b43 := told_set b43
        have S43 := S42.loc o43 LB_42.tag (by omega)
        have im1_43 := Im.loc im1_42 o43 LB_42.tag
        have im2_43 := Im.loc im2_42 o43 LB_42.tag
        exact hK _ _ ⟨_, _, _, _, _, _, _, rfl, b42.only o43 (by omega), b43, S43, im1_43, im2_43⟩
    · refine new_of fun k44 b44 n44 z44 => ?_
      have S44 := S0.alloc n44
      have LB_44 := Loc.here (t := tt) b44
      have sq_44 := S0.bq.lt
      refine ⟨?_, ?_⟩
      · refine call_of (do_st gk S44 i) ?_
        rintro v k45 ⟨p1_45, p2_45, t45, rfl, S45, f45, im1_45⟩
        have LB_45 := Loc.fr1 LB_44 f45
        obtain ⟨q0_45, q1_45, q2_45, q3_45, q4_45, q5_45, q6_45, q7_45, q8_45, q9_45, q10_45, q11_45, q12_45⟩ := S45.six
        refine ⟨toldC (act z p D x).2.a (act z p D x).2.hd p1_45 (act z p D x).2.b.length p2_45 (act z p D x).2.e, rfl, q0_45, q1_45, q2_45, q3_45, q4_45, q5_45, q6_45, q7_45, q8_45, q9_45, q10_45, q11_45, q12_45, ?_⟩
        refine ⟨?_, ?_⟩
        · refine call_of (own_st gk S45 i) ?_
          rintro v k46 ⟨q1_46, q2_46, t46, rfl, S46, f46, im2_46⟩
          have im1_46 := Im.fr im1_45 f46 fr0b
          have LB_46 := Loc.fr2 LB_45 f46
          refine ⟨toldC (act z p D x).2.a (act z p D x).2.hd q1_46 (act z p D x).2.b.length q2_46 (act z p D x).2.e, rfl, ?_⟩
          refine new_of fun k47 b47 n47 z47 => ?_
          have S47 := S46.alloc n47
          have im1_47 := Im.alloc im1_46 n47
          have im2_47 := Im.alloc im2_46 n47
          have LB_47 := Loc.alloc LB_46 n47
          have LA_47 := Loc.here (t := t46) b47
          have lt_47 := LB_46.lt
          have sq_47 := S46.bq.lt
          refine stL_blk LA_47.blk (by rw [zeroT]; exact Nat.le_refl 7) fun k48 b48 o48 => ?_
          have b48 := told_set b48
          have S48 := S47.loc o48 LA_47.tag (by omega)
          have im1_48 := Im.loc im1_47 o48 LA_47.tag
          have im2_48 := Im.loc im2_47 o48 LA_47.tag
          have LB_48 := Loc.only LB_47 o48 (by omega)
          refine stL_blk LB_48.blk (by rw [zeroT]; exact Nat.le_refl 7) fun k49 b49 o49 => ?_
          have b49 := told_set b49
          have S49 := S48.loc o49 LB_48.tag (by omega)
          have im1_49 := Im.loc im1_48 o49 LB_48.tag
          have im2_49 := Im.loc im2_48 o49 LB_48.tag
          exact hK _ _ ⟨_, _, _, _, _, _, _, rfl, b48.only o49 (by omega), b49, S49, im1_49, im2_49⟩
        · refine new_of fun k50 b50 n50 z50 => ?_
          have S50 := S45.alloc n50
          have im1_50 := Im.alloc im1_45 n50
          have LB_50 := Loc.alloc LB_45 n50
          have LA_50 := Loc.here (t := t45) b50
          have lt_50 := LB_45.lt
          have sq_50 := S45.bq.lt
          refine call_of (own_st gk S50 i) ?_
          rintro v k51 ⟨q1_51, q2_51, t51, rfl, S51, f51, im2_51⟩
          have im1_51 := Im.fr im1_50 f51 fr0b
          have LA_51 := Loc.fr2 LA_50 f51
          have LB_51 := Loc.fr2 LB_50 f51
          refine ⟨toldC (act z p D x).2.a (act z p D x).2.hd q1_51 (act z p D x).2.b.length q2_51 (act z p D x).2.e, rfl, ?_⟩
          refine stL_blk LA_51.blk (by rw [zeroT]; exact Nat.le_refl 7) fun k52 b52 o52 => ?_
          have b52 := told_set b52
          have S52 := S51.loc o52 LA_51.tag (by omega)
          have im1_52 := Im.loc im1_51 o52 LA_51.tag
          have im2_52 := Im.loc im2_51 o52 LA_51.tag
          have LB_52 := Loc.only LB_51 o52 (by omega)
          refine stL_blk LB_52.blk (by rw [zeroT]; exact Nat.le_refl 7) fun k53 b53 o53 => ?_
          have b53 := told_set b53
          have S53 := S52.loc o53 LB_52.tag (by omega)
          have im1_53 := Im.loc im1_52 o53 LB_52.tag
          have im2_53 := Im.loc im2_52 o53 LB_52.tag
          exact hK _ _ ⟨_, _, _, _, _, _, _, rfl, b52.only o53 (by omega), b53, S53, im1_53, im2_53⟩
      · refine new_of fun k54 b54 n54 z54 => ?_
        have S54 := S44.alloc n54
        have LB_54 := Loc.alloc LB_44 n54
        have LA_54 := Loc.here (t := (lay tt h3.size (3, 0))) b54
        have lt_54 := LB_44.lt
        have sq_54 := S44.bq.lt
        refine call_of (do_st gk S54 i) ?_
        rintro v k55 ⟨p1_55, p2_55, t55, rfl, S55, f55, im1_55⟩
        have LA_55 := Loc.fr1 LA_54 f55
        have LB_55 := Loc.fr1 LB_54 f55
        obtain ⟨q0_55, q1_55, q2_55, q3_55, q4_55, q5_55, q6_55, q7_55, q8_55, q9_55, q10_55, q11_55, q12_55⟩ := S55.six
        refine ⟨toldC (act z p D x).2.a (act z p D x).2.hd p1_55 (act z p D x).2.b.length p2_55 (act z p D x).2.e, rfl, q0_55, q1_55, q2_55, q3_55, q4_55, q5_55, q6_55, q7_55, q8_55, q9_55, q10_55, q11_55, q12_55, ?_⟩
        refine call_of (own_st gk S55 i) ?_
        rintro v k56 ⟨q1_56, q2_56, t56, rfl, S56, f56, im2_56⟩
        have im1_56 := Im.fr im1_55 f56 fr0b
        have LA_56 := Loc.fr2 LA_55 f56
        have LB_56 := Loc.fr2 LB_55 f56
        refine ⟨toldC (act z p D x).2.a (act z p D x).2.hd q1_56 (act z p D x).2.b.length q2_56 (act z p D x).2.e, rfl, ?_⟩
        refine stL_blk LA_56.blk (by rw [zeroT]; exact Nat.le_refl 7) fun k57 b57 o57 => ?_
        have b57 := told_set b57
        have S57 := S56.loc o57 LA_56.tag (by omega)
        have im1_57 := Im.loc im1_56 o57 LA_56.tag
        have im2_57 := Im.loc im2_56 o57 LA_56.tag
        have LB_57 := Loc.only LB_56 o57 (by omega)
        refine stL_blk LB_57.blk (by rw [zeroT]; exact Nat.le_refl 7) fun k58 b58 o58 => ?_
        have b58 := told_set b58
        have S58 := S57.loc o58 LB_57.tag (by omega)
        have im1_58 := Im.loc im1_57 o58 LB_57.tag
        have im2_58 := Im.loc im2_57 o58 LB_57.tag
        exact hK _ _ ⟨_, _, _, _, _, _, _, rfl, b57.only o58 (by omega), b58, S58, im1_58, im2_58⟩
  rintro ⟨s1, s2⟩ h5' ⟨gA, gB, a1, c1, a2, c2, t', e, bA, bB, S, im1, im2⟩ _
  obtain ⟨rfl, rfl⟩ := Prod.mk.inj e
  have hl := act_told (z := z) (p := p) gk.ok x
  refine ptr_of (ld_of (c := .int .u32) (act z p D x).2.a (by rw [add_mk, cellH_blk bA]; rfl) (ptr_of (ld_of (c := .int .u32) (act z p D x).2.a (by rw [add_mk, cellH_blk bB]; rfl) (br_f (by simp) ?_))))
  refine ptr_of (ldAgg_add (o := 0) (act z p D x).2.hd bA ⟨rfl, rfl, rfl, rfl, trivial⟩ (ptr_of (ldAgg_add (o := 0) (act z p D x).2.hd bB ⟨rfl, rfl, rfl, rfl, trivial⟩ ⟨_, hd_eqR _ _, br_f (by rw [decide_eq_true rfl]; rfl) ?_⟩)))
  refine ptr_of (ld_of (c := .int .i64) (act z p D x).2.e (by rw [add_mk, cellH_blk bA]; rfl) (ptr_of (ld_of (c := .int .i64) (act z p D x).2.e (by rw [add_mk, cellH_blk bB]; rfl) (br_f (by simp) ?_))))
  refine ptr_of (ld_of (c := .slice) (a1, (act z p D x).2.b.length, c1) (by rw [add_mk, cellH_blk bA]; rfl) (ptr_of (ld_of (c := .slice) (a2, (act z p D x).2.b.length, c2) (by rw [add_mk, cellH_blk bB]; rfl) (call_of (Same3.same_ok _ _ _ _ _ _ h5' (act z p D x).2.b (act z p D x).2.b rfl rfl (show (act z p D x).2.b.length ≤ 9223372036854775806 by omega) im1.ar im2.ar) ?_))))
  rintro v h' ⟨rfl, hh⟩; subst h'
  refine ⟨true, by rw [decide_eq_true rfl] <;> rfl, br_f rfl ?_⟩
  rw [wr64 (by omega) (by omega)]
  exact ⟨⟨i + 1, (act z p D x).1, t', rfl, hlt, GOk.act gk hin, S.bs, S.rp, S.rr⟩, (by first | omega | (dsimp only; omega) | (simp only []; omega))⟩
end Go.Proofs.YtgohecjnjadnpaaGreatDoor.L16D
