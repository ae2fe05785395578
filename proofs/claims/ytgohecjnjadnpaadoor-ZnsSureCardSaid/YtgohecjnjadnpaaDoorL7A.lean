/-
  Acts on devices of zones: what they are, and what the laws' own functions come to.
-/
import Derived.Test.YtgohecjnjadnpaaDoorWL7
import Derived.Test.YtgohecjnjadnpaaDoorWOwn7
import Derived.Test.YtgohecjnjadnpaaDoorZnsR
import Derived.Test.YtgohecjnjadnpaaDoorSame3
namespace Go.Proofs.YtgohecjnjadnpaaDoor.L7A
open Go.Pl Go.Proofs.YtgohecjnjadnpaaDoor.W Go.Proofs.YtgohecjnjadnpaaDoor.Byts Go.Proofs.YtgohecjnjadnpaaDoor.As Go.Proofs.YtgohecjnjadnpaaDoor.Zns
abbrev ptr (b : Nat) : Value := .pointer (some ⟨b, 0, none⟩)
abbrev PRep := DRep LoP
abbrev RRep := DRep LoR
/-- An act: which, zone, page, bytes, what is kept, what tears. -/
structure Act where
  op : Int
  zone : Int
  page : Int
  b : List Int
  keep : List Int
  tear : List Bool
/-- What an act answers. -/
structure Told where
  n : Int
  e : Int
  b : List Int
def act (D : Dev) (x : Act) : Dev × Told :=
  if x.op = 0 then ((D.append x.zone x.b).1, ⟨(D.append x.zone x.b).2.1, (D.append x.zone x.b).2.2, []⟩)
  else if x.op = 1 then (D, ⟨0, (D.read x.zone x.page).2, (D.read x.zone x.page).1⟩)
  else if x.op = 2 then ((D.reset x.zone).1, ⟨0, (D.reset x.zone).2, []⟩)
  else if x.op = 3 then ((D.finish x.zone).1, ⟨0, (D.finish x.zone).2, []⟩)
  else if x.op = 4 then (D.flush.1, ⟨0, D.flush.2, []⟩)
  else if x.op = 5 then (D.setFuse x.page, ⟨0, 0, []⟩)
  else if x.op = 6 then (D.crash x.keep x.tear, ⟨0, 0, []⟩)
  else (D, ⟨0, 0, []⟩)
/-- What is known of what came in, from heap h0 on. -/
structure ActIn (h0 : Heap) (x : Act) (ba : Option Addr) (ka : Option Addr) (ta : Option Addr) : Prop where
  b : Ar .u8 h0 ba x.b
  keep : Ar .i64 h0 ka x.keep
  tear : ZnsP.Bo h0 ta x.tear
  byt : Byt x.b
  page : x.page ≤ 9223372036854775807
  kw : ∀ y ∈ x.keep, -9223372036854775808 ≤ y ∧ y ≤ 9223372036854775807
  lb : x.b.length ≤ 1000
/-- All that was there stays; it belongs to nobody. -/
structure Bs (h0 : Heap) (t : Tags) (h : Heap) : Prop where
  new : New h0 h
  tag : ∀ b, b < h0.size → (t b).1 = 0
  laid : Laid h0
theorem Bs.start {h0 : Heap} (l : Laid h0) : Bs h0 (fun _ => (0, 0)) h0 := ⟨New.refl h0, fun _ _ => rfl, l⟩
theorem Bs.lay {h0 h : Heap} {t : Tags} (b : Bs h0 t h) : Laid h := b.laid.new b.new
theorem Bs.fr {S : Nat × Nat → Prop} {h0 h h' : Heap} {t t' : Tags} (b : Bs h0 t h) (f : Fr S t h t' h') (hS : ∀ p : Nat × Nat, p.1 = 0 → S p) : Bs h0 t' h' :=
  ⟨f.new b.new fun c hc => hS _ (b.tag c hc), fun c hc => by rw [f.tags c (Nat.lt_of_lt_of_le hc b.new.size)]; exact b.tag c hc, b.laid⟩
theorem Bs.own {k : Nat} {h0 h h' : Heap} {t t' : Tags} (b : Bs h0 t h) (hk : k ≠ 0) (f : Fr (fun p => p.1 ≠ k) t h t' h') : Bs h0 t' h' := b.fr f fun p hp e => hk (by rw [← e]; exact hp)
theorem Bs.newer {h0 h h' : Heap} {t : Tags} (b : Bs h0 t h) (n : New h h') : Bs h0 t h' := ⟨b.new.trans n, b.tag, b.laid⟩
theorem Bs.tags {h0 h h' : Heap} {t t' : Tags} (b : Bs h0 t h) (n : New h h') (ht : ∀ g, g < h.size → t' g = t g) : Bs h0 t' h' := ⟨b.new.trans n, fun c hc => by rw [ht c (Nat.lt_of_lt_of_le hc b.new.size)]; exact b.tag c hc, b.laid⟩
theorem Bs.im {k : IntKind} {h0 h : Heap} {t : Tags} (b : Bs h0 t h) {a : Option Addr} {xs : List Int} (r : Ar k h0 a xs) : Im k t h a xs := ⟨r.new b.new, fun hx g hg => by
  obtain ⟨g', o, e, hl⟩ := r.lt' hx
  subst e; injection hg with hg; change g' = g at hg; subst hg
  exact b.tag _ hl⟩
theorem Bs.ins {h0 h : Heap} {t : Tags} (b : Bs h0 t h) {x : Act} {ba ka ta : Option Addr} (i : ActIn h0 x ba ka ta) : ZnsP.Ins t h ka x.keep ta x.tear := by
  refine ⟨i.keep.new b.new, fun j y hy => ?_, (b.im i.keep).im, fun hx g hg => ?_⟩
  · obtain ⟨g, o, e, hl, hc⟩ := i.tear j y hy
    exact ⟨g, o, e, Nat.lt_of_lt_of_le hl b.new.size, by rw [cellH_same (b.new.same g hl)]; exact hc⟩
  · cases ht : x.tear with
    | nil => exact (hx ht).elim
    | cons y ys =>
      obtain ⟨g', o, e, hl, _⟩ := i.tear 0 y (by rw [ht]; rfl)
      subst e; injection hg with hg; change g' = g at hg; subst hg
      exact b.tag _ hl
def actA (x : Act) (ba ka ta : Option Addr) (bc kc tc : Nat) : Array Value := #[.int .i64 x.op, .int .i64 x.zone, .int .i64 x.page, .slice ba x.b.length bc, .slice ka x.keep.length kc, .slice ta x.tear.length tc]
def actV (x : Act) (ba ka ta : Option Addr) (bc kc tc : Nat) : Value := .agg (actA x ba ka ta bc kc tc)
theorem zeroT : zeroC Tryd.prog 58 = #[.int .i64 0, .int .i64 0, .slice none 0 0] := by kernel_rfl
theorem DevOk.act {D : Dev} (o : DevOk D) {x : Act} {h0 : Heap} {ba ka ta : Option Addr} (i : ActIn h0 x ba ka ta) : DevOk (act D x).1 := by
  unfold L7A.act
  split
  · exact o.append _ i.byt
  split
  · exact o
  split
  · exact o.reset _
  split
  · exact o.finish _
  split
  · exact o.flush
  split
  · exact o.setFuse i.page
  split
  · exact o.crash _ _
  · exact o
/-- An act on one of the two devices: what it answers, and what is there behind it. -/
def Did (L : Lo) (k : Nat) (t : Tags) (h : Heap) (b : Nat) (r : Dev × Told) (v : Value) (h' : Heap) : Prop :=
  ∃ a c t', v = .agg #[.int .i64 r.2.n, .int .i64 r.2.e, .slice a r.2.b.length c] ∧ DRep L k t' h' b r.1 ∧ Fr (fun p => p.1 ≠ k) t h t' h' ∧ Im .u8 t' h' a r.2.b
theorem Fr.loc {k : Nat} {t t' : Tags} {h h4 h5 : Heap} {g : Nat} (f : Fr (fun p => p.1 ≠ k) t h t' h4) (u : Upd g h4 h5) (hg : h.size ≤ g) : Fr (fun p => p.1 ≠ k) t h t' h5 :=
  ⟨Nat.le_trans f.size u.size, f.tags, fun c hc hk => (u.same c (Nat.lt_of_lt_of_le hc f.size) (by omega)).trans (f.same c hc hk)⟩
/-- What is there behind a call, where two blocks are the caller's own. -/
structure Mid (L : Lo) (k : Nat) (t : Tags) (h : Heap) (p q : Nat) (b : Nat) (r : Dev × Told) (a : Option Addr) (c : Nat) (n e : Int) (t4 : Tags) (h4 : Heap) : Prop where
  bq : Blk h4 q #[.int .i64 n, .int .i64 e, .slice a r.2.b.length c] 58
  bp : Blk h4 p #[.int .i64 0, .int .i64 0, .slice none 0 0] 58
  dev : DRep L k t4 h4 b r.1
  fr : Fr (fun p => p.1 ≠ k) t h t4 h4
  im : Im .u8 t4 h4 a r.2.b
  tp : t4 p = (k + 1, 0)
  tq : t4 q = (k + 1, 0)
theorem Mid.locF {L : Lo} {k : Nat} {t t4 : Tags} {h h4 h5 : Heap} {p q b c : Nat} {r : Dev × Told} {a : Option Addr} {n e : Int} (m : Mid L k t h p q b r a c n e t4 h4) {g : Nat} (hg : g = p ∨ g = q) (o : Only g h4 h5) (hpq : h.size ≤ p ∧ h.size ≤ q) :
    DRep L k t4 h5 b r.1 ∧ Fr (fun p => p.1 ≠ k) t h t4 h5 ∧ Im .u8 t4 h5 a r.2.b := by
  have tg : t4 g = (k + 1, 0) := by rcases hg with rfl | rfl; exact m.tp; exact m.tq
  have f : Fr (fun x => x ≠ (k + 1, 0)) t4 h4 t4 h5 := Fr.upd o.upd fun hn => hn tg
  have h0 : ∀ x : Nat × Nat, x.1 = 0 → x ≠ (k + 1, 0) := fun x hx e => by subst e; simp at hx
  exact ⟨m.dev.fr f h0 fun j e => by have := (Prod.mk.inj e).1; omega, Fr.loc m.fr o.upd (by rcases hg with rfl | rfl; exact hpq.1; exact hpq.2), m.im.fr f h0⟩
/-- The end of an act: what it answers is handed back. -/
theorem told_end {L : Lo} {k : Nat} {t t4 : Tags} {h h4 : Heap} {p q b c : Nat} {r : Dev × Told} {a : Option Addr} (m : Mid L k t h p q b r a c r.2.n r.2.e t4 h4) (hpq : h.size ≤ p ∧ h.size ≤ q) :
    ldAggW [.int .i64, .int .i64, .slice] ⟨q, 0, none⟩ (fun (x40 : Int × Int × (Option Addr × Nat × Nat)) =>
      stLW ⟨p, 0, none⟩ [.int .i64 x40.1, .int .i64 x40.2.1, .slice x40.2.2.1 x40.2.2.2.1 x40.2.2.2.2] (fun h41 =>
      ldAggW [.int .i64, .int .i64, .slice] ⟨p, 0, none⟩ (fun (x42 : Int × Int × (Option Addr × Nat × Nat)) =>
      Did L k t h b r (.agg #[.int .i64 x42.1, .int .i64 x42.2.1, .slice x42.2.2.1 x42.2.2.2.1 x42.2.2.2.2]) h41) h41) h4) h4 := by
  refine ldAgg_blk (r.2.n, r.2.e, (a, r.2.b.length, c)) m.bq ⟨rfl, rfl, rfl, trivial⟩ ?_
  refine stL_blk m.bp (Nat.le_refl 3) fun h7 b7 o7 => ?_
  have b7 : Blk h7 p #[.int .i64 r.2.n, .int .i64 r.2.e, .slice a r.2.b.length c] 58 := by rw [setsA_all (by rfl)] at b7; exact b7
  obtain ⟨d, f, im⟩ := m.locF (.inl rfl) o7 hpq
  exact ldAgg_blk (r.2.n, r.2.e, (a, r.2.b.length, c)) b7 ⟨rfl, rfl, rfl, trivial⟩ ⟨a, c, t4, rfl, d, f, im⟩
theorem do_ok {k b : Nat} {h0 : Heap} {t : Tags} {D : Dev} (o : DevOk D) (x : Act) (ba ka ta : Option Addr) (bc kc tc : Nat) (h : Heap) (bs : Bs h0 t h) (i : ActIn h0 x ba ka ta) (r : PRep k t h b D) (hk : k ≠ 0) :
    CallsH Tryd.prog 27 [ptr b, actV x ba ka ta bc kc tc] h (Did LoP k t h b (act D x)) := by
  refine fun_ok hm' Tryd.func27 (by kernel_rfl) (F27_eq _ _ _ _ _ _ _ _ _ _ _ _ _ _ h) ?_
  unfold F27
  rw [zeroT]
  refine new_of fun h1 b1 n1 s1 => new_of fun h2 b2 n2 s2 => new_of fun h3 b3 n3 s3 => ?_
  have b1 : Blk h1 h.size (actA x ba ka ta bc kc tc) 56 := b1
  have n03 := (n1.trans n2).trans n3
  have n13 := n2.trans n3
  have b13 := b1.new n13
  have b23 := b2.new n3
  have f3 : Fr (fun p => p.1 ≠ k) t h (lay t h.size (k + 1, 0)) h3 := Fr.lay n03 _
  have bs3 := bs.own hk f3
  have r3 : PRep k (lay t h.size (k + 1, 0)) h3 b D := r.fr (S := fun _ => True) (Fr.lay n03 _) (fun _ _ => trivial) fun _ => trivial
  have tg : ∀ g, h.size ≤ g → lay t h.size (k + 1, 0) g = (k + 1, 0) := fun g hg => lay_ge hg
  generalize lay t h.size (k + 1, 0) = t3 at f3 bs3 r3 tg
  have c0 : cellH h3 (Addr.add ⟨h.size, 0, none⟩ 0) = some (.int .i64 x.op) := by rw [add_mk, cellH_blk b13]; rfl
  have c1 : cellH h3 (Addr.add ⟨h.size, 0, none⟩ 1) = some (.int .i64 x.zone) := by rw [add_mk, cellH_blk b13]; rfl
  have c2 : cellH h3 (Addr.add ⟨h.size, 0, none⟩ 2) = some (.int .i64 x.page) := by rw [add_mk, cellH_blk b13]; rfl
  have c3 : cellH h3 (Addr.add ⟨h.size, 0, none⟩ 3) = some (.slice ba x.b.length bc) := by rw [add_mk, cellH_blk b13]; rfl
  have c4 : cellH h3 (Addr.add ⟨h.size, 0, none⟩ 4) = some (.slice ka x.keep.length kc) := by rw [add_mk, cellH_blk b13]; rfl
  have c5 : cellH h3 (Addr.add ⟨h.size, 0, none⟩ 5) = some (.slice ta x.tear.length tc) := by rw [add_mk, cellH_blk b13]; rfl
  have hpq : h.size ≤ h1.size ∧ h.size ≤ h2.size := by omega
  have hS1 : ((k + 1, 0) : Nat × Nat).1 ≠ k := by simp
  -- where nothing was turned but by the device's owner
  have mid : ∀ (h4 : Heap) (t4 : Tags) (E : Dev) (n e : Int), PRep k t4 h4 b E → Fr (fun p => p.1 ≠ k) t3 h3 t4 h4 → Mid LoP k t h h1.size h2.size b (E, ⟨n, e, []⟩) none 0 0 0 t4 h4 := fun h4 t4 E n e r4 f4 =>
    ⟨f4.blk b3 (by rw [tg _ (by omega)]; exact hS1), f4.blk b23 (by rw [tg _ (by omega)]; exact hS1), r4, f3.trans f4, Im.nil .., by rw [f4.tags _ b23.lt]; exact tg _ (by omega), by rw [f4.tags _ b3.lt]; exact tg _ (by omega)⟩
  refine cut_q (ts := [.sc .any]) (fun (e : Value) h4 => ∃ a c t4, e = errV (act D x).2.e ∧ Mid LoP k t h h1.size h2.size b (act D x) a c (act D x).2.n 0 t4 h4) ?_ ?_
  · rintro e h4 ⟨a, c, t4, he, m4⟩ _
    have he : e = errV (act D x).2.e := he
    subst he
    have bs4 := bs.own hk m4.fr
    refine call_of (code_err (act D x).2.e h4 bs4.lay) ?_
    rintro v h5 ⟨rfl, n5⟩
    refine ⟨(act D x).2.e, rfl, ?_⟩
    rw [add_mk]
    refine st_blk (m4.bq.new n5) (show 0 + 1 < 3 by omega) fun h6 b6 o6 => ?_
    have ne12 : h1.size ≠ h2.size := by omega
    have m5 : Mid LoP k t h h1.size h2.size b (act D x) a c (act D x).2.n 0 t4 h5 := ⟨m4.bq.new n5, m4.bp.new n5, m4.dev.new n5, m4.fr.trans (Fr.new0 n5), m4.im.new n5, m4.tp, m4.tq⟩
    obtain ⟨d6, f6, im6⟩ := m5.locF (.inr rfl) o6 hpq
    exact told_end ⟨b6, m5.bp.only o6 ne12, d6, f6, im6, m4.tp, m4.tq⟩ hpq
  · intro K hK
    have ops : ∀ (q : Int), x.op = q → (x.op == q) = true := fun q h => by simp [h]
    refine ld_of (c := .int .i64) x.op c0 (br_of (fun e0 => ?_) fun e0 => br_of (fun e1 => ?_) fun e1 => br_of (fun e2 => ?_) fun e2 => br_of (fun e3 => ?_) fun e3 => br_of (fun e4 => ?_) fun e4 => br_of (fun e5 => ?_) fun e5 => br_of (fun e6 => ?_) fun e6 => ?_)
    · have e0 : x.op = 0 := by simpa using e0
      have ea : act D x = ((D.append x.zone x.b).1, ⟨(D.append x.zone x.b).2.1, (D.append x.zone x.b).2.2, []⟩) := by unfold act; rw [if_pos e0]
      refine ld_of (c := .int .i64) x.zone c1 (ld_of (c := .slice) (ba, x.b.length, bc) c3 (call_of (ZnsP.append_ok o x.zone ba bc x.b h3 r3 i.lb (bs3.im i.b)) ?_))
      rintro v h4 ⟨rfl, t4, r4, f4⟩
      have m4 := mid h4 t4 _ (D.append x.zone x.b).2.1 (D.append x.zone x.b).2.2 r4 f4
      refine ⟨((D.append x.zone x.b).2.1, errV (D.append x.zone x.b).2.2), rfl, ?_⟩
      rw [add_mk]
      refine st_blk m4.bq (show 0 + 0 < 3 by omega) fun h5 b5 o5 => hK _ _ ?_
      rw [ea]
      obtain ⟨d5, f5, im5⟩ := m4.locF (.inr rfl) o5 hpq
      exact ⟨none, 0, t4, rfl, b5, m4.bp.only o5 (by omega), d5, f5, im5, m4.tp, m4.tq⟩
    · have e0 : ¬ x.op = 0 := by simpa using e0
      have e1 : x.op = 1 := by simpa using e1
      have ea : act D x = (D, ⟨0, (D.read x.zone x.page).2, (D.read x.zone x.page).1⟩) := by unfold act; rw [if_neg e0, if_pos e1]
      refine ld_of (c := .int .i64) x.zone c1 (ld_of (c := .int .i64) x.page c2 (call_of (ZnsP.read_ok o x.zone x.page h3 r3) ?_))
      rintro v h4 ⟨a4, k4, rfl, g4⟩
      refine ⟨((a4, (D.read x.zone x.page).1.length, k4), errV (D.read x.zone x.page).2), rfl, ?_⟩
      have f4 : Fr (fun p => p.1 ≠ k) t3 h3 (lay t3 h3.size (0, 0)) h4 := Fr.lay g4.new _
      have r4 : PRep k (lay t3 h3.size (0, 0)) h4 b D := r3.fr (S := fun _ => True) (Fr.lay g4.new _) (fun _ _ => trivial) fun _ => trivial
      have m4 := mid h4 _ D 0 0 r4 f4
      rw [add_mk]
      refine st_blk m4.bq (show 0 + 2 < 3 by omega) fun h5 b5 o5 => hK _ _ ?_
      rw [ea]
      have im4 := Im.got g4 (t := t3) (0, 0) rfl
      have m4' : Mid LoP k t h h1.size h2.size b (D, ⟨0, (D.read x.zone x.page).2, (D.read x.zone x.page).1⟩) a4 k4 0 0 (lay t3 h3.size (0, 0)) h5 := by
        obtain ⟨d5, f5, _⟩ := m4.locF (.inr rfl) o5 hpq
        have f : Fr (fun x => x ≠ (k + 1, 0)) (lay t3 h3.size (0, 0)) h4 (lay t3 h3.size (0, 0)) h5 := Fr.upd o5.upd fun hn => hn m4.tq
        exact ⟨b5, m4.bp.only o5 (by omega), d5, f5, im4.fr f fun y hy e => by subst e; simp at hy, m4.tp, m4.tq⟩
      exact ⟨a4, k4, _, rfl, m4'⟩
    · have e0 : ¬ x.op = 0 := by simpa using e0
      have e1 : ¬ x.op = 1 := by simpa using e1
      have e2 : x.op = 2 := by simpa using e2
      have ea : act D x = ((D.reset x.zone).1, ⟨0, (D.reset x.zone).2, []⟩) := by unfold act; rw [if_neg e0, if_neg e1, if_pos e2]
      refine ld_of (c := .int .i64) x.zone c1 (call_of (ZnsP.reset_ok o x.zone h3 r3) ?_)
      rintro v h4 ⟨rfl, t4, r4, f4⟩
      refine ⟨errV (D.reset x.zone).2, rfl, hK _ _ ?_⟩
      rw [ea]; exact ⟨none, 0, t4, rfl, mid h4 t4 _ _ _ r4 f4⟩
    · have e0 : ¬ x.op = 0 := by simpa using e0
      have e1 : ¬ x.op = 1 := by simpa using e1
      have e2 : ¬ x.op = 2 := by simpa using e2
      have e3 : x.op = 3 := by simpa using e3
      have ea : act D x = ((D.finish x.zone).1, ⟨0, (D.finish x.zone).2, []⟩) := by unfold act; rw [if_neg e0, if_neg e1, if_neg e2, if_pos e3]
      refine ld_of (c := .int .i64) x.zone c1 (call_of (ZnsP.finish_ok o x.zone h3 r3) ?_)
      rintro v h4 ⟨rfl, t4, r4, f4⟩
      refine ⟨errV (D.finish x.zone).2, rfl, hK _ _ ?_⟩
      rw [ea]; exact ⟨none, 0, t4, rfl, mid h4 t4 _ _ _ r4 f4⟩
    · have e0 : ¬ x.op = 0 := by simpa using e0
      have e1 : ¬ x.op = 1 := by simpa using e1
      have e2 : ¬ x.op = 2 := by simpa using e2
      have e3 : ¬ x.op = 3 := by simpa using e3
      have e4 : x.op = 4 := by simpa using e4
      have ea : act D x = (D.flush.1, ⟨0, D.flush.2, []⟩) := by unfold act; rw [if_neg e0, if_neg e1, if_neg e2, if_neg e3, if_pos e4]
      refine call_of (ZnsP.flush_ok o h3 r3) ?_
      rintro v h4 ⟨rfl, t4, r4, f4⟩
      refine ⟨errV D.flush.2, rfl, hK _ _ ?_⟩
      rw [ea]; exact ⟨none, 0, t4, rfl, mid h4 t4 _ _ _ r4 f4⟩
    · have e0 : ¬ x.op = 0 := by simpa using e0
      have e1 : ¬ x.op = 1 := by simpa using e1
      have e2 : ¬ x.op = 2 := by simpa using e2
      have e3 : ¬ x.op = 3 := by simpa using e3
      have e4 : ¬ x.op = 4 := by simpa using e4
      have e5 : x.op = 5 := by simpa using e5
      have ea : act D x = (D.setFuse x.page, ⟨0, 0, []⟩) := by unfold act; rw [if_neg e0, if_neg e1, if_neg e2, if_neg e3, if_neg e4, if_pos e5]
      refine ld_of (c := .int .i64) x.page c2 (call_of (ZnsP.fuse_ok x.page h3 r3) ?_)
      rintro v h4 ⟨rfl, r4, u4⟩
      obtain ⟨t5, r5, f5⟩ := ZnsP.Acted.of_upd r3 r4 u4
      refine ⟨(), rfl, hK _ _ ?_⟩
      rw [ea]; exact ⟨none, 0, t5, rfl, mid h4 t5 _ _ _ r5 f5⟩
    · have e0 : ¬ x.op = 0 := by simpa using e0
      have e1 : ¬ x.op = 1 := by simpa using e1
      have e2 : ¬ x.op = 2 := by simpa using e2
      have e3 : ¬ x.op = 3 := by simpa using e3
      have e4 : ¬ x.op = 4 := by simpa using e4
      have e5 : ¬ x.op = 5 := by simpa using e5
      have e6 : x.op = 6 := by simpa using e6
      have ea : act D x = (D.crash x.keep x.tear, ⟨0, 0, []⟩) := by unfold act; rw [if_neg e0, if_neg e1, if_neg e2, if_neg e3, if_neg e4, if_neg e5, if_pos e6]
      refine ld_of (c := .slice) (ka, x.keep.length, kc) c4 (ld_of (c := .slice) (ta, x.tear.length, tc) c5 (call_of (ZnsP.crash_ok o ka kc x.keep ta tc x.tear h3 r3 (bs3.ins i) i.kw) ?_))
      rintro v h4 ⟨rfl, t4, r4, f4⟩
      refine ⟨(), rfl, hK _ _ ?_⟩
      rw [ea]; exact ⟨none, 0, t4, rfl, mid h4 t4 _ _ _ r4 f4⟩
    · have e0 : ¬ x.op = 0 := by simpa using e0
      have e1 : ¬ x.op = 1 := by simpa using e1
      have e2 : ¬ x.op = 2 := by simpa using e2
      have e3 : ¬ x.op = 3 := by simpa using e3
      have e4 : ¬ x.op = 4 := by simpa using e4
      have e5 : ¬ x.op = 5 := by simpa using e5
      have e6 : ¬ x.op = 6 := by simpa using e6
      have ea : act D x = (D, ⟨0, 0, []⟩) := by unfold act; rw [if_neg e0, if_neg e1, if_neg e2, if_neg e3, if_neg e4, if_neg e5, if_neg e6]
      refine hK _ _ ?_
      rw [ea]; exact ⟨none, 0, t3, rfl, mid h3 t3 _ _ _ r3 (Fr.refl _ _ _)⟩
theorem own_ok {k b : Nat} {h0 : Heap} {t : Tags} {D : Dev} (o : DevOk D) (x : Act) (ba ka ta : Option Addr) (bc kc tc : Nat) (h : Heap) (bs : Bs h0 t h) (i : ActIn h0 x ba ka ta) (r : RRep k t h b D) (hk : k ≠ 0) :
    CallsH Tryd.prog 28 [ptr b, actV x ba ka ta bc kc tc] h (Did LoR k t h b (act D x)) := by
  refine fun_ok hm' Tryd.func28 (by kernel_rfl) (F28_eq _ _ _ _ _ _ _ _ _ _ _ _ _ _ h) ?_
  unfold F28
  rw [zeroT]
  refine new_of fun h1 b1 n1 s1 => new_of fun h2 b2 n2 s2 => new_of fun h3 b3 n3 s3 => ?_
  have b1 : Blk h1 h.size (actA x ba ka ta bc kc tc) 56 := b1
  have n03 := (n1.trans n2).trans n3
  have n13 := n2.trans n3
  have b13 := b1.new n13
  have b23 := b2.new n3
  have f3 : Fr (fun p => p.1 ≠ k) t h (lay t h.size (k + 1, 0)) h3 := Fr.lay n03 _
  have bs3 := bs.own hk f3
  have r3 : RRep k (lay t h.size (k + 1, 0)) h3 b D := r.fr (S := fun _ => True) (Fr.lay n03 _) (fun _ _ => trivial) fun _ => trivial
  have tg : ∀ g, h.size ≤ g → lay t h.size (k + 1, 0) g = (k + 1, 0) := fun g hg => lay_ge hg
  generalize lay t h.size (k + 1, 0) = t3 at f3 bs3 r3 tg
  have c0 : cellH h3 (Addr.add ⟨h.size, 0, none⟩ 0) = some (.int .i64 x.op) := by rw [add_mk, cellH_blk b13]; rfl
  have c1 : cellH h3 (Addr.add ⟨h.size, 0, none⟩ 1) = some (.int .i64 x.zone) := by rw [add_mk, cellH_blk b13]; rfl
  have c2 : cellH h3 (Addr.add ⟨h.size, 0, none⟩ 2) = some (.int .i64 x.page) := by rw [add_mk, cellH_blk b13]; rfl
  have c3 : cellH h3 (Addr.add ⟨h.size, 0, none⟩ 3) = some (.slice ba x.b.length bc) := by rw [add_mk, cellH_blk b13]; rfl
  have c4 : cellH h3 (Addr.add ⟨h.size, 0, none⟩ 4) = some (.slice ka x.keep.length kc) := by rw [add_mk, cellH_blk b13]; rfl
  have c5 : cellH h3 (Addr.add ⟨h.size, 0, none⟩ 5) = some (.slice ta x.tear.length tc) := by rw [add_mk, cellH_blk b13]; rfl
  have hpq : h.size ≤ h1.size ∧ h.size ≤ h2.size := by omega
  have hS1 : ((k + 1, 0) : Nat × Nat).1 ≠ k := by simp
  -- where nothing was turned but by the device's owner
  have mid : ∀ (h4 : Heap) (t4 : Tags) (E : Dev) (n e : Int), RRep k t4 h4 b E → Fr (fun p => p.1 ≠ k) t3 h3 t4 h4 → Mid LoR k t h h1.size h2.size b (E, ⟨n, e, []⟩) none 0 0 0 t4 h4 := fun h4 t4 E n e r4 f4 =>
    ⟨f4.blk b3 (by rw [tg _ (by omega)]; exact hS1), f4.blk b23 (by rw [tg _ (by omega)]; exact hS1), r4, f3.trans f4, Im.nil .., by rw [f4.tags _ b23.lt]; exact tg _ (by omega), by rw [f4.tags _ b3.lt]; exact tg _ (by omega)⟩
  refine cut_q (ts := []) (fun _ h4 => ∃ a c t4, Mid LoR k t h h1.size h2.size b (act D x) a c (act D x).2.n (act D x).2.e t4 h4) ?_ ?_
  · rintro _ h4 ⟨a, c, t4, m4⟩ _
    exact told_end m4 hpq
  · intro K hK
    have ops : ∀ (q : Int), x.op = q → (x.op == q) = true := fun q h => by simp [h]
    refine ld_of (c := .int .i64) x.op c0 (br_of (fun e0 => ?_) fun e0 => br_of (fun e1 => ?_) fun e1 => br_of (fun e2 => ?_) fun e2 => br_of (fun e3 => ?_) fun e3 => br_of (fun e4 => ?_) fun e4 => br_of (fun e5 => ?_) fun e5 => br_of (fun e6 => ?_) fun e6 => ?_)
    · have e0 : x.op = 0 := by simpa using e0
      have ea : act D x = ((D.append x.zone x.b).1, ⟨(D.append x.zone x.b).2.1, (D.append x.zone x.b).2.2, []⟩) := by unfold act; rw [if_pos e0]
      refine ld_of (c := .int .i64) x.zone c1 (ld_of (c := .slice) (ba, x.b.length, bc) c3 (call_of (ZnsR.append_ok o x.zone ba bc x.b h3 r3 i.lb (bs3.im i.b)) ?_))
      rintro v h4 ⟨rfl, t4, r4, f4⟩
      have m4 := mid h4 t4 _ (D.append x.zone x.b).2.1 (D.append x.zone x.b).2.2 r4 f4
      refine ⟨((D.append x.zone x.b).2.1, (D.append x.zone x.b).2.2), rfl, ?_⟩
      rw [add_mk]
      refine st_blk m4.bq (show 0 + 0 < 3 by omega) fun h5 b5 o5 => ?_
      rw [add_mk]
      refine st_blk b5 (show 0 + 1 < 3 by omega) fun h6 b6 o6 => hK _ _ ?_
      rw [ea]
      obtain ⟨d6, f6, im6⟩ := m4.locF (.inr rfl) (o5.trans o6) hpq
      exact ⟨none, 0, t4, b6, m4.bp.only (o5.trans o6) (by omega), d6, f6, im6, m4.tp, m4.tq⟩
    · have e0 : ¬ x.op = 0 := by simpa using e0
      have e1 : x.op = 1 := by simpa using e1
      have ea : act D x = (D, ⟨0, (D.read x.zone x.page).2, (D.read x.zone x.page).1⟩) := by unfold act; rw [if_neg e0, if_pos e1]
      refine ld_of (c := .int .i64) x.zone c1 (ld_of (c := .int .i64) x.page c2 (call_of (ZnsR.read_ok o x.zone x.page h3 r3) ?_))
      rintro v h4 ⟨a4, k4, rfl, g4⟩
      refine ⟨((a4, (D.read x.zone x.page).1.length, k4), (D.read x.zone x.page).2), rfl, ?_⟩
      have f4 : Fr (fun p => p.1 ≠ k) t3 h3 (lay t3 h3.size (0, 0)) h4 := Fr.lay g4.new _
      have r4 : RRep k (lay t3 h3.size (0, 0)) h4 b D := r3.fr (S := fun _ => True) (Fr.lay g4.new _) (fun _ _ => trivial) fun _ => trivial
      have m4 := mid h4 _ D 0 0 r4 f4
      rw [add_mk]
      refine st_blk m4.bq (show 0 + 2 < 3 by omega) fun h5 b5 o5 => ?_
      rw [add_mk]
      refine st_blk b5 (show 0 + 1 < 3 by omega) fun h6 b6 o6 => hK _ _ ?_
      rw [ea]
      have im4 := Im.got g4 (t := t3) (0, 0) rfl
      obtain ⟨d5, f5, _⟩ := m4.locF (.inr rfl) (o5.trans o6) hpq
      have f : Fr (fun x => x ≠ (k + 1, 0)) (lay t3 h3.size (0, 0)) h4 (lay t3 h3.size (0, 0)) h6 := Fr.upd (o5.trans o6).upd fun hn => hn m4.tq
      exact ⟨a4, k4, _, b6, m4.bp.only (o5.trans o6) (by omega), d5, f5, im4.fr f (fun y hy e => by subst e; simp at hy), m4.tp, m4.tq⟩
    · have e0 : ¬ x.op = 0 := by simpa using e0
      have e1 : ¬ x.op = 1 := by simpa using e1
      have e2 : x.op = 2 := by simpa using e2
      have ea : act D x = ((D.reset x.zone).1, ⟨0, (D.reset x.zone).2, []⟩) := by unfold act; rw [if_neg e0, if_neg e1, if_pos e2]
      refine ld_of (c := .int .i64) x.zone c1 (call_of (ZnsR.reset_ok o x.zone h3 r3) ?_)
      rintro v h4 ⟨rfl, t4, r4, f4⟩
      have m4 := mid h4 t4 _ 0 (D.reset x.zone).2 r4 f4
      refine ⟨(D.reset x.zone).2, rfl, ?_⟩
      rw [add_mk]
      refine st_blk m4.bq (show 0 + 1 < 3 by omega) fun h5 b5 o5 => hK _ _ ?_
      rw [ea]
      obtain ⟨d5, f5, im5⟩ := m4.locF (.inr rfl) o5 hpq
      exact ⟨none, 0, t4, b5, m4.bp.only o5 (by omega), d5, f5, im5, m4.tp, m4.tq⟩
    · have e0 : ¬ x.op = 0 := by simpa using e0
      have e1 : ¬ x.op = 1 := by simpa using e1
      have e2 : ¬ x.op = 2 := by simpa using e2
      have e3 : x.op = 3 := by simpa using e3
      have ea : act D x = ((D.finish x.zone).1, ⟨0, (D.finish x.zone).2, []⟩) := by unfold act; rw [if_neg e0, if_neg e1, if_neg e2, if_pos e3]
      refine ld_of (c := .int .i64) x.zone c1 (call_of (ZnsR.finish_ok o x.zone h3 r3) ?_)
      rintro v h4 ⟨rfl, t4, r4, f4⟩
      have m4 := mid h4 t4 _ 0 (D.finish x.zone).2 r4 f4
      refine ⟨(D.finish x.zone).2, rfl, ?_⟩
      rw [add_mk]
      refine st_blk m4.bq (show 0 + 1 < 3 by omega) fun h5 b5 o5 => hK _ _ ?_
      rw [ea]
      obtain ⟨d5, f5, im5⟩ := m4.locF (.inr rfl) o5 hpq
      exact ⟨none, 0, t4, b5, m4.bp.only o5 (by omega), d5, f5, im5, m4.tp, m4.tq⟩
    · have e0 : ¬ x.op = 0 := by simpa using e0
      have e1 : ¬ x.op = 1 := by simpa using e1
      have e2 : ¬ x.op = 2 := by simpa using e2
      have e3 : ¬ x.op = 3 := by simpa using e3
      have e4 : x.op = 4 := by simpa using e4
      have ea : act D x = (D.flush.1, ⟨0, D.flush.2, []⟩) := by unfold act; rw [if_neg e0, if_neg e1, if_neg e2, if_neg e3, if_pos e4]
      refine call_of (ZnsR.flush_ok o h3 r3) ?_
      rintro v h4 ⟨rfl, t4, r4, f4⟩
      have m4 := mid h4 t4 _ 0 D.flush.2 r4 f4
      refine ⟨D.flush.2, rfl, ?_⟩
      rw [add_mk]
      refine st_blk m4.bq (show 0 + 1 < 3 by omega) fun h5 b5 o5 => hK _ _ ?_
      rw [ea]
      obtain ⟨d5, f5, im5⟩ := m4.locF (.inr rfl) o5 hpq
      exact ⟨none, 0, t4, b5, m4.bp.only o5 (by omega), d5, f5, im5, m4.tp, m4.tq⟩
    · have e0 : ¬ x.op = 0 := by simpa using e0
      have e1 : ¬ x.op = 1 := by simpa using e1
      have e2 : ¬ x.op = 2 := by simpa using e2
      have e3 : ¬ x.op = 3 := by simpa using e3
      have e4 : ¬ x.op = 4 := by simpa using e4
      have e5 : x.op = 5 := by simpa using e5
      have ea : act D x = (D.setFuse x.page, ⟨0, 0, []⟩) := by unfold act; rw [if_neg e0, if_neg e1, if_neg e2, if_neg e3, if_neg e4, if_pos e5]
      refine ld_of (c := .int .i64) x.page c2 (call_of (ZnsR.fuse_ok x.page h3 r3) ?_)
      rintro v h4 ⟨rfl, r4, u4⟩
      obtain ⟨t5, r5, f5⟩ : ZnsR.Acted k t3 h3 b _ h4 := ⟨t3, r4, by obtain ⟨za, c, arr, r3⟩ := r3; exact Fr.upd u4 fun hn => hn (by rw [r3.tagB])⟩
      refine ⟨(), rfl, hK _ _ ?_⟩
      rw [ea]; exact ⟨none, 0, t5, mid h4 t5 _ _ _ r5 f5⟩
    · have e0 : ¬ x.op = 0 := by simpa using e0
      have e1 : ¬ x.op = 1 := by simpa using e1
      have e2 : ¬ x.op = 2 := by simpa using e2
      have e3 : ¬ x.op = 3 := by simpa using e3
      have e4 : ¬ x.op = 4 := by simpa using e4
      have e5 : ¬ x.op = 5 := by simpa using e5
      have e6 : x.op = 6 := by simpa using e6
      have ea : act D x = (D.crash x.keep x.tear, ⟨0, 0, []⟩) := by unfold act; rw [if_neg e0, if_neg e1, if_neg e2, if_neg e3, if_neg e4, if_neg e5, if_pos e6]
      refine ld_of (c := .slice) (ka, x.keep.length, kc) c4 (ld_of (c := .slice) (ta, x.tear.length, tc) c5 (call_of (ZnsR.crash_ok o ka kc x.keep ta tc x.tear h3 r3 (bs3.ins i)) ?_))
      rintro v h4 ⟨rfl, t4, r4, f4⟩
      refine ⟨(), rfl, hK _ _ ?_⟩
      rw [ea]; exact ⟨none, 0, t4, mid h4 t4 _ _ _ r4 f4⟩
    · have e0 : ¬ x.op = 0 := by simpa using e0
      have e1 : ¬ x.op = 1 := by simpa using e1
      have e2 : ¬ x.op = 2 := by simpa using e2
      have e3 : ¬ x.op = 3 := by simpa using e3
      have e4 : ¬ x.op = 4 := by simpa using e4
      have e5 : ¬ x.op = 5 := by simpa using e5
      have e6 : ¬ x.op = 6 := by simpa using e6
      have ea : act D x = (D, ⟨0, 0, []⟩) := by unfold act; rw [if_neg e0, if_neg e1, if_neg e2, if_neg e3, if_neg e4, if_neg e5, if_neg e6]
      refine hK () _ ?_
      rw [ea]; exact ⟨none, 0, t3, mid h3 t3 _ _ _ r3 (Fr.refl _ _ _)⟩
/- ACTS THAT CAME IN. -/
abbrev ActS : Sh := .pair (.int .i64) (.pair (.int .i64) (.pair (.int .i64) (.pair (.slice (.int .u8)) (.pair (.slice (.int .i64)) (.slice .bool)))))
abbrev ActT := Int × Int × Int × List Int × List Int × List Bool
def actOf (x : ActT) : Act := ⟨x.1, x.2.1, x.2.2.1, x.2.2.2.1, x.2.2.2.2.1, x.2.2.2.2.2⟩
theorem bools_in {h : Heap} {cs : List Value} {l : List Bool} (r : Reads h (.slice .bool) cs l) : ∃ a c, cs = [.slice a l.length c] ∧ ZnsP.Bo h a l := by
  obtain ⟨a, c, e, _, _, _, hr⟩ := r
  refine ⟨a, c, e, fun i x hi => ?_⟩
  obtain ⟨b, o, es, e1, hb, hl, hc, e2⟩ := hr i x hi
  have := hc 0 Nat.one_pos
  rw [e2] at this
  exact ⟨b, o, e1, hb, by simpa [Sh.n] using this⟩
theorem ints_in {k : IntKind} {h : Heap} {cs : List Value} {l : List Int} (r : Reads h (.slice (.int k)) cs l) : ∃ a c, cs = [.slice a l.length c] ∧ Ar k h a l ∧ ∀ x ∈ l, (Lit.int k x).wf = true := by
  have r' := r
  obtain ⟨a, c, e, _⟩ := r
  subst e
  obtain ⟨a', c', e', _, _, _, har, hw⟩ := Ar.reads (h := h) (v := .slice a (List.length (α := (Sh.int k).T) l) c) (xs := l) ⟨_, rfl, r'⟩
  injection e' with e1 e2 e3
  subst e1
  exact ⟨a, c, rfl, har, hw⟩
theorem act_in {h : Heap} {es : List Value} {x : ActT} (r : Reads h ActS es x) : ∃ ba bc ka kc ta tc, es = (actA (actOf x) ba ka ta bc kc tc).toList ∧ (x.2.2.2.1.length ≤ 1000 → ActIn h (actOf x) ba ka ta) := by
  obtain ⟨c1, d1, rfl, ⟨rfl, _⟩, c2, d2, rfl, ⟨rfl, _⟩, c3, d3, rfl, ⟨rfl, w3⟩, c4, d4, rfl, hb, c5, d5, rfl, hk, ht⟩ := r
  obtain ⟨ba, bc, rfl, arb, wb⟩ := ints_in hb
  obtain ⟨ka, kc, rfl, ark, wk⟩ := ints_in hk
  obtain ⟨ta, tc, rfl, bt⟩ := bools_in ht
  exact ⟨ba, bc, ka, kc, ta, tc, rfl, fun hl => ⟨arb, ark, bt, Byt.wf wb, (i64_wf w3).2, fun y hy => i64_wf (wk y hy), hl⟩⟩
abbrev ActC := Int × Int × Int × (Option Addr × Nat × Nat) × (Option Addr × Nat × Nat) × (Option Addr × Nat × Nat)
def actC (x : Act) (ba ka ta : Option Addr) (bc kc tc : Nat) : ActC := (x.op, x.zone, x.page, (ba, x.b.length, bc), (ka, x.keep.length, kc), (ta, x.tear.length, tc))
theorem actC_vals (x : Act) (ba ka ta : Option Addr) (bc kc tc : Nat) : cvals [.int .i64, .int .i64, .int .i64, .slice, .slice, .slice] (actC x ba ka ta bc kc tc) = (actA x ba ka ta bc kc tc).toList := rfl
/-- The acts of a list, loaded one by one. -/
theorem act_at {h0 h : Heap} {a : Option Addr} {l : List ActT} (r : SlAt h0 ActS a l) (n : New h0 h) {i : Nat} (hi : i < l.length) : ∃ ba bc ka kc ta tc, (l[i].2.2.2.1.length ≤ 1000 → ActIn h0 (actOf l[i]) ba ka ta) ∧
    ∀ {m : Nat} {F : ActC → Prop}, i < m → F (actC (actOf l[i]) ba ka ta bc kc tc) → ptrW a (fun p => idxW (i : Int) m true (ldAggW [.int .i64, .int .i64, .int .i64, .slice, .slice, .slice] (Addr.add p (Int.toNat (i : Int) * 6)) F h)) := by
  obtain ⟨b, o, es, rfl, hb, hel, hc, re⟩ := r i _ (List.getElem?_eq_getElem hi)
  obtain ⟨ba, bc, ka, kc, ta, tc, rfl, hin⟩ := act_in re
  refine ⟨ba, bc, ka, kc, ta, tc, hin, fun hm hF => ?_⟩
  exact agg_at (k := 6) (actC (actOf l[i]) ba ka ta bc kc tc) (es := (actA (actOf l[i]) ba ka ta bc kc tc).toList) (fun j hj => by rw [cellH_same (n.same b hb)]; exact hc j hj) (actC_vals ..).symm rfl hm hF
theorem ldAct {h : Heap} {b : Nat} {T : TypeId} {x : Act} {ba ka ta : Option Addr} {bc kc tc : Nat} (bb : Blk h b (actA x ba ka ta bc kc tc) T) {F : ActC → Prop} (hF : F (actC x ba ka ta bc kc tc)) : ldAggW [.int .i64, .int .i64, .int .i64, .slice, .slice, .slice] ⟨b, 0, none⟩ F h :=
  ldAgg_blk (actC x ba ka ta bc kc tc) bb ⟨rfl, rfl, rfl, rfl, rfl, rfl, trivial⟩ hF
theorem zeroAct : (zeroC Tryd.prog 56).size = 6 := by kernel_rfl
def isLarge (l : List ActT) : Bool := !decide (l.length ≤ 100 ∧ ∀ x ∈ l, x.2.2.2.1.length ≤ 100 ∧ x.2.2.2.2.1.length ≤ 100 ∧ x.2.2.2.2.2.length ≤ 100)
theorem large_ok (a : Option Addr) (c : Nat) (l : List ActT) (h : Heap) (r : SlAt h ActS a l) : CallsH Tryd.prog 24 [.slice a l.length c] h fun v h' => v = .bool (isLarge l) ∧ New h h' := by
  refine fun_ok hm' Tryd.func24 (by kernel_rfl) (F24_eq _ _ _ _ h) ?_
  unfold F24
  refine br_of (fun h0 => ⟨?_, New.refl h⟩) fun h0 => ?_
  · have h0 := of_decide_eq_true h0
    unfold isLarge; rw [decide_eq_false (by omega)]; rfl
  have hl : l.length ≤ 100 := by have := of_decide_eq_false h0; omega
  refine ⟨fun (s : Int) h' => ∃ i : Nat, s = i ∧ i ≤ l.length ∧ New h h' ∧ ∀ x ∈ l.take i, x.2.2.2.1.length ≤ 100 ∧ x.2.2.2.2.1.length ≤ 100 ∧ x.2.2.2.2.2.length ≤ 100, fun (s : Int) _ => ((l.length : Int) - s).toNat, ⟨0, rfl, by omega, New.refl h, by simp⟩, ?_⟩
  rintro s j h1 ⟨i, rfl, hi, n1, hall⟩
  refine br_of (fun hlt => ?_) (fun hlt => ?_)
  · have hlt : i < l.length := by have := of_decide_eq_true hlt; omega
    obtain ⟨ba, bc, ka, kc, ta, tc, _, ld⟩ := act_at r n1 hlt
    refine ld hlt (new_stL (by rw [zeroAct]; rfl) fun h2 b2 n2 s2 => ?_)
    have b2 : Blk h2 h1.size (actA (actOf l[i]) ba ka ta bc kc tc) 56 := b2
    have no : ¬ (l[i].2.2.2.1.length ≤ 100 ∧ l[i].2.2.2.2.1.length ≤ 100 ∧ l[i].2.2.2.2.2.length ≤ 100) → Value.bool true = Value.bool (isLarge l) := fun hh => by
      unfold isLarge; rw [decide_eq_false (fun h => hh (h.2 _ (List.getElem_mem hlt)))]; rfl
    refine ld_of (c := .slice) (ba, (actOf l[i]).b.length, bc) (by rw [add_mk, cellH_blk b2]; rfl) (br_of (fun hx => ⟨no fun hh => ?_, n1.trans n2⟩) fun hx => ld_of (c := .slice) (ka, (actOf l[i]).keep.length, kc) (by rw [add_mk, cellH_blk b2]; rfl) (br_of (fun hy => ⟨no fun hh => ?_, n1.trans n2⟩) fun hy => ld_of (c := .slice) (ta, (actOf l[i]).tear.length, tc) (by rw [add_mk, cellH_blk b2]; rfl) (br_of (fun hz => ⟨no fun hh => ?_, n1.trans n2⟩) fun hz => ?_)))
    · have hx := of_decide_eq_true hx; have h1 := hh.1; simp only [actOf] at hx; omega
    · have hy := of_decide_eq_true hy; have h1 := hh.2.1; simp only [actOf] at hy; omega
    · have hz := of_decide_eq_true hz; have h1 := hh.2.2; simp only [actOf] at hz; omega
    · have hx := of_decide_eq_false hx; have hy := of_decide_eq_false hy; have hz := of_decide_eq_false hz
      simp only [actOf] at hx hy hz
      rw [wr64 (by omega) (by omega)]
      refine ⟨⟨i + 1, by omega, by omega, n1.trans n2, fun x hm => ?_⟩, (by first | omega | (dsimp only; omega) | (simp only []; omega))⟩
      rw [List.take_add_one, List.getElem?_eq_getElem hlt] at hm
      rcases List.mem_append.1 hm with hm | hm
      · exact hall x hm
      · simp at hm; subst hm; omega
  · have hi : i = l.length := by have := of_decide_eq_false hlt; omega
    subst hi
    rw [List.take_length] at hall
    refine ⟨?_, n1⟩
    unfold isLarge; rw [decide_eq_true ⟨hl, hall⟩]; rfl
theorem notLarge {l : List ActT} (h : isLarge l = false) : l.length ≤ 100 ∧ ∀ x ∈ l, x.2.2.2.1.length ≤ 100 ∧ x.2.2.2.2.1.length ≤ 100 ∧ x.2.2.2.2.2.length ≤ 100 := by
  unfold isLarge at h; simpa using h
/- WHAT THE LAWS LOOK AT. -/
theorem alike_ok {kp kr bp br_ : Nat} {t : Tags} {D : Dev} (o : DevOk D) (h : Heap) (rp : PRep kp t h bp D) (rr : RRep kr t h br_ D) :
    CallsH Tryd.prog 29 [ptr bp, ptr br_] h fun v h' => v = .bool true ∧ New h h' := by
  refine fun_ok hm' Tryd.func29 (by kernel_rfl) (F29_eq _ _ _ h) ?_
  unfold F29
  have hz := o.zones
  refine cut_q (ts := []) (fun _ h' => h' = h) ?_ ?_
  rotate_left
  · intro K hK
    have rr0 := rr
    obtain ⟨za, c, arr, r⟩ := rr0
    refine ld_of (c := .slice) (some ⟨za, 0, none⟩, D.zs.length, c) r.cz (call_of (ZnsP.zones_ok h rp) ?_)
    rintro v h' ⟨rfl, hh⟩; subst h'
    refine ⟨(D.zs.length : Int), rfl, r.cz, br_f (by simp) (ld_of (c := .int .i64) (D.P : Int) r.cP (call_of (ZnsP.pages_ok h rp) ?_))⟩
    rintro v h' ⟨rfl, hh⟩; subst h'
    refine ⟨(D.P : Int), rfl, r.cP, r.cz, br_f (by simp) (ld_of (c := .bool) D.down r.cd (call_of (ZnsP.down_ok h rp) ?_))⟩
    rintro v h' ⟨rfl, hh⟩; subst h'
    refine ⟨D.down, rfl, r.cd, r.cP, r.cz, br_f (by simp) (ld_of (c := .int .i64) D.ops r.co (call_of (ZnsP.ops_ok h rp) ?_))⟩
    rintro v h' ⟨rfl, hh⟩; subst h'
    exact ⟨D.ops, rfl, r.co, r.cd, r.cP, r.cz, br_f (by simp) (hK () _ rfl)⟩
  rintro _ h' hh _; subst h'
  refine ⟨fun (s : Int) h' => ∃ i : Nat, s = (i : Int) - 1 ∧ i ≤ D.zs.length + 2 ∧ New h h', fun (s : Int) _ => ((D.zs.length : Int) + 1 - s).toNat, ⟨0, rfl, by omega, New.refl h⟩, ?_⟩
  rintro s j h1 ⟨i, rfl, hi, n1⟩
  have rp1 := rp.new n1
  have rr1 := rr.new n1
  have rr0 := rr1
  obtain ⟨za, c, arr, r⟩ := rr0
  refine ld_of (c := .slice) (some ⟨za, 0, none⟩, D.zs.length, c) r.cz (br_of (fun hlt => ?_) (fun hlt => ⟨rfl, n1⟩))
  have hlt := of_decide_eq_true hlt
  simp only [] at hlt
  refine call_of (ZnsP.state_ok _ h1 rp1) ?_
  rintro v h2 ⟨rfl, n2⟩
  refine ⟨D.state _, rfl, call_of (ZnsR.state_ok _ h2 (rr1.new n2)) ?_⟩
  rintro v h' ⟨rfl, hh⟩; subst h'
  refine ⟨D.state _, rfl, br_f (by simp) (call_of (ZnsP.point_ok _ h2 (rp1.new n2)) ?_)⟩
  rintro v h3 ⟨rfl, n3⟩
  refine ⟨(D.point _ : Int), rfl, call_of (ZnsR.point_ok _ h3 ((rr1.new n2).new n3)) ?_⟩
  rintro v h' ⟨rfl, hh⟩; subst h'
  refine ⟨(D.point _ : Int), rfl, br_f (by simp) (call_of (ZnsP.sure_ok _ h3 ((rp1.new n2).new n3)) ?_)⟩
  rintro v h4 ⟨rfl, n4⟩
  refine ⟨(D.sure _ : Int), rfl, call_of (ZnsR.sure_ok _ h4 (((rr1.new n2).new n3).new n4)) ?_⟩
  rintro v h' ⟨rfl, hh⟩; subst h'
  refine ⟨(D.sure _ : Int), rfl, br_f (by simp) ?_⟩
  rw [wr64 (by omega) (by omega)]
  exact ⟨⟨i + 1, by omega, by omega, ((n1.trans n2).trans n3).trans n4⟩, (by first | omega | (dsimp only; omega) | (simp only []; omega))⟩
theorem read_len {D : Dev} (o : DevOk D) (n p : Int) : (D.read n p).1.length ≤ 33 ∧ Byt (D.read n p).1 := by
  unfold Dev.read
  have nil : ([] : List Int).length ≤ 33 ∧ Byt [] := ⟨by simp, fun x hx => by cases hx⟩
  split
  · exact nil
  split
  · exact nil
  split
  · exact nil
  split
  · exact nil
  · rename_i h1 h2 h3 h4
    have hi : p.toNat < (D.at_ n).pages.length := by omega
    have e : (D.at_ n).pages.getD p.toNat [] = (D.at_ n).pages[p.toNat] := by simp [List.getD_eq_getElem?_getD, List.getElem?_eq_getElem hi]
    simp only [e]
    obtain ⟨hb, h33 | h0⟩ := (o.at_ n).page _ (List.getElem_mem hi)
    · exact ⟨by omega, hb⟩
    · rw [h0]; exact nil
theorem pages_ok {kp kr bp br_ : Nat} {h0 : Heap} {t : Tags} {D : Dev} (o : DevOk D) (h : Heap) (bs : Bs h0 t h) (rp : PRep kp t h bp D) (rr : RRep kr t h br_ D) :
    CallsH Tryd.prog 30 [ptr bp, ptr br_] h fun v h' => v = .bool true ∧ New h h' := by
  refine fun_ok hm' Tryd.func30 (by kernel_rfl) (F30_eq _ _ _ h) ?_
  unfold F30
  have hz := o.zones
  have hP := o.pages
  have rr0 := rr
  obtain ⟨za, c, arr, r⟩ := rr0
  refine ld_of (c := .slice) (some ⟨za, 0, none⟩, D.zs.length, c) r.cz ?_
  refine ⟨fun (s : Int) h' => ∃ i : Nat, s = i ∧ i ≤ D.zs.length ∧ New h h', fun (s : Int) _ => ((D.zs.length : Int) - s).toNat, ⟨0, rfl, by omega, New.refl h⟩, ?_⟩
  rintro s j h1 ⟨i, rfl, hi, n1⟩
  refine br_of (fun hlt => ?_) (fun hlt => ⟨rfl, n1⟩)
  have hlt : i < D.zs.length := by have := of_decide_eq_true hlt; simp only [] at this; omega
  refine ld_of (c := .int .i64) (D.P : Int) (r.new n1).cP ?_
  refine ⟨fun (s : Int) h' => ∃ i : Nat, s = i ∧ i ≤ D.P ∧ New h h', fun (s : Int) _ => ((D.P : Int) - s).toNat, ⟨0, rfl, by omega, n1⟩, ?_⟩
  rintro s j2 h2 ⟨p, rfl, hp, n2⟩
  refine br_of (fun hlt2 => ?_) (fun hlt2 => ?_)
  · have hlt2 : p < D.P := by have := of_decide_eq_true hlt2; omega
    refine call_of (ZnsP.read_ok o _ _ h2 (rp.new n2)) ?_
    rintro v h3 ⟨a3, c3, rfl, g3⟩
    have n3 := n2.trans g3.new
    refine ⟨((a3, (D.read i p).1.length, c3), errV (D.read i p).2), rfl, call_of (ZnsR.read_ok o _ _ h3 (rr.new n3)) ?_⟩
    rintro v h4 ⟨a4, c4, rfl, g4⟩
    have n4 := n3.trans g4.new
    have hl := (read_len o i p).1
    refine ⟨((a4, (D.read i p).1.length, c4), (D.read i p).2), rfl, call_of (Same3.same_ok _ _ _ _ _ _ h4 (D.read i p).1 (D.read i p).1 rfl rfl (by simp only []; omega) (g3.ar.new g4.new) g4.ar) ?_⟩
    rintro v h' ⟨rfl, hh⟩; subst h'
    refine ⟨true, by rw [decide_eq_true rfl] <;> rfl, br_f rfl (call_of (code_err (D.read i p).2 h4 (bs.newer n4).lay) ?_)⟩
    rintro v h5 ⟨rfl, n5⟩
    refine ⟨(D.read i p).2, rfl, br_f (by simp) ?_⟩
    rw [wr64 (by omega) (by omega)]
    exact ⟨⟨p + 1, rfl, hlt2, n4.trans n5⟩, (by first | omega | (dsimp only; omega) | (simp only []; omega))⟩
  · rw [wr64 (by omega) (by omega)]
    exact ⟨⟨i + 1, rfl, hlt, n2⟩, (by first | omega | (dsimp only; omega) | (simp only []; omega))⟩
end Go.Proofs.YtgohecjnjadnpaaDoor.L7A
