/-
  Acts on media: what they are, and what the laws' own function comes to.
-/
import Derived.Test.YtgohecjnjadnpaaDoorMed
import Derived.Test.YtgohecjnjadnpaaDoorWL16
namespace Go.Proofs.YtgohecjnjadnpaaDoor.MedA
open Go.Pl Go.Proofs.YtgohecjnjadnpaaDoor.W Go.Proofs.YtgohecjnjadnpaaDoor.Byts Go.Proofs.YtgohecjnjadnpaaDoor.As Go.Proofs.YtgohecjnjadnpaaDoor.Err Go.Proofs.YtgohecjnjadnpaaDoor.Head Go.Proofs.YtgohecjnjadnpaaDoor.HdP Go.Proofs.YtgohecjnjadnpaaDoor.Zns Go.Proofs.YtgohecjnjadnpaaDoor.ZnsP Go.Proofs.YtgohecjnjadnpaaDoor.Geo Go.Proofs.YtgohecjnjadnpaaDoor.Med
/-- An act: which, zone, address, head, block, what is kept, what tears. -/
structure Act where
  op : Int
  zone : Int
  addr : Int
  hd : Hd
  b : List Int
  keep : List Int
  tear : List Bool
/-- What an act answers. -/
structure Told where
  a : Int
  hd : Hd
  b : List Int
  e : Int
def no : Told := ⟨0, hd0, [], 0⟩
def act (z p : Int) (D : Dev) (x : Act) : Dev × Told :=
  if x.op = 0 then ((putM z p D x.zone x.hd x.b).1, ⟨(putM z p D x.zone x.hd x.b).2.1, hd0, [], (putM z p D x.zone x.hd x.b).2.2⟩)
  else if x.op = 1 then (D, ⟨0, (getM z p D x.addr).1, (getM z p D x.addr).2.1, (getM z p D x.addr).2.2⟩)
  else if x.op = 2 then ((D.reset x.zone).1, ⟨0, hd0, [], (D.reset x.zone).2⟩)
  else if x.op = 3 then (D.flush.1, ⟨0, hd0, [], D.flush.2⟩)
  else if x.op = 4 then (D.setFuse x.zone, no)
  else if x.op = 5 then (D.crash x.keep x.tear, no)
  else (D, no)
structure ActIn (h0 : Heap) (x : Act) (ba : Option Addr) (bc : Nat) (ka : Option Addr) (ta : Option Addr) : Prop where
  b : Sl8 h0 ba bc x.b
  keep : Ar .i64 h0 ka x.keep
  tear : ZnsP.Bo h0 ta x.tear
  hd : HdOk x.hd
  addr : 0 ≤ x.addr ∧ x.addr < 4294967296
  zone : x.zone ≤ 9223372036854775807
  kw : ∀ y ∈ x.keep, -9223372036854775808 ≤ y ∧ y ≤ 9223372036854775807
/- What an act leaves. -/
theorem append_same (D : Dev) (n : Int) (b : List Int) : (D.append n b).1.zs.length = D.zs.length ∧ (D.append n b).1.P = D.P := by
  unfold Dev.append
  simp only []
  split
  · exact ⟨by rw [doing_zs], doing_P _ _⟩
  · exact ⟨by simp [Dev.setZ, doing_zs], doing_P _ _⟩
theorem reset_same (D : Dev) (n : Int) : (D.reset n).1.zs.length = D.zs.length ∧ (D.reset n).1.P = D.P := by
  unfold Dev.reset
  simp only []
  split
  · exact ⟨by rw [doing_zs], doing_P _ _⟩
  · exact ⟨by simp [Dev.setZ, doing_zs], doing_P _ _⟩
theorem flush_same (D : Dev) : D.flush.1.zs.length = D.zs.length ∧ D.flush.1.P = D.P := by
  unfold Dev.flush
  simp only []
  split
  · exact ⟨by rw [doing_zs], doing_P _ _⟩
  · exact ⟨by simp [Dev.settle, doing_zs], doing_P _ _⟩
theorem GOk.of {z p : Int} {D E : Dev} (g : GOk z p D) (o : DevOk E) (s : E.zs.length = D.zs.length ∧ E.P = D.P) : GOk z p E := ⟨g.zr, g.pr, by rw [s.1]; exact g.zs, by rw [s.2]; exact g.P, o⟩
theorem bytesF_byt {x : Hd} {bs : List Int} (hx : HdOk x) (hb : Byt bs) : Byt (bytesF x bs).1 := by
  rcases bytesF_cases x bs with ⟨_, _, _, e⟩ | ⟨_, e, _⟩
  · rw [e]; exact pageL_byt hx hb
  · rw [e]; exact fun y hy => by cases hy
theorem GOk.put {z p : Int} {D : Dev} (g : GOk z p D) (zone : Int) {x : Hd} {bs : List Int} (hx : HdOk x) (hb : Byt bs) : GOk z p (putM z p D zone x bs).1 := by
  have ga : GOk z p (D.append zone (bytesF x bs).1).1 := GOk.of g (g.ok.append _ (bytesF_byt hx hb)) (append_same _ _ _)
  unfold putM
  split
  · exact g
  split
  · exact g
  split
  · exact ga
  · exact ga
theorem GOk.act {z p : Int} {D : Dev} (g : GOk z p D) {x : Act} {h0 : Heap} {ba ka ta : Option Addr} {bc : Nat} (i : ActIn h0 x ba bc ka ta) : GOk z p (act z p D x).1 := by
  unfold MedA.act
  split
  · exact GOk.put g _ i.hd i.b.byt
  split
  · exact g
  split
  · exact GOk.of g (g.ok.reset _) (reset_same _ _)
  split
  · exact GOk.of g g.ok.flush (flush_same _)
  split
  · exact GOk.of g (g.ok.setFuse i.zone) ⟨rfl, rfl⟩
  split
  · exact GOk.of g (g.ok.crash _ _) ⟨by simp [Dev.crash], rfl⟩
  · exact g
/-- All that was there stays; it belongs to nobody. -/
structure Bs (h0 : Heap) (t : Tags) (h : Heap) : Prop where
  new : New h0 h
  tag : ∀ b, b < h0.size → (t b).1 = 0
  laid : Laid h0
theorem Bs.start {h0 : Heap} (l : Laid h0) : Bs h0 (fun _ => (0, 0)) h0 := ⟨New.refl h0, fun _ _ => rfl, l⟩
theorem Bs.lay {h0 h : Heap} {t : Tags} (b : Bs h0 t h) : Laid h := b.laid.new b.new
theorem Bs.fr {S : Nat × Nat → Prop} {h0 h h' : Heap} {t t' : Tags} (b : Bs h0 t h) (f : Fr S t h t' h') (hS : ∀ p : Nat × Nat, p.1 = 0 → S p) : Bs h0 t' h' :=
  ⟨f.new b.new fun c hc => hS _ (b.tag c hc), fun c hc => by rw [f.tags c (Nat.lt_of_lt_of_le hc b.new.size)]; exact b.tag c hc, b.laid⟩
theorem Bs.own {k : Nat} {h0 h h' : Heap} {t t' : Tags} (b : Bs h0 t h) (hk : k ≠ 0) (f : Fr (fun p => p.1 ≠ k) t h t' h') : Bs h0 t' h' := b.fr f fun p hp e => hk (by rw [← e]; exact hp)
theorem Bs.newer {h0 h h' : Heap} {t : Tags} (b : Bs h0 t h) (n : New h h') : Bs h0 t h' := ⟨b.new.trans n, b.tag, b.laid⟩
theorem Bs.tags {h0 h h' : Heap} {t t' : Tags} (b : Bs h0 t h) (n : New h h') (ht : ∀ g, g < h.size → t' g = t g) : Bs h0 t' h' := ⟨b.new.trans n, fun c hc => by rw [ht c (Nat.lt_of_lt_of_le hc b.new.size)]; exact b.tag c hc, b.laid⟩
theorem Bs.im {k : IntKind} {h0 h : Heap} {t : Tags} (b : Bs h0 t h) {a : Option Addr} {xs : List Int} (r : Ar k h0 a xs) : Im k t h a xs := ⟨r.new b.new, fun hx g hg => by
  obtain ⟨g', o, e, hl⟩ := r.lt' hx
  subst e; injection hg with hg; change g' = g at hg; subst hg
  exact b.tag _ hl⟩
theorem Bs.ins {h0 h : Heap} {t : Tags} (b : Bs h0 t h) {x : Act} {ba ka ta : Option Addr} {bc : Nat} (i : ActIn h0 x ba bc ka ta) : ZnsP.Ins t h ka x.keep ta x.tear := by
  refine ⟨i.keep.new b.new, fun j y hy => ?_, (b.im i.keep).im, fun hx g hg => ?_⟩
  · obtain ⟨g, o, e, hl, hc⟩ := i.tear j y hy
    exact ⟨g, o, e, Nat.lt_of_lt_of_le hl b.new.size, by rw [cellH_same (b.new.same g hl)]; exact hc⟩
  · cases ht : x.tear with
    | nil => exact (hx ht).elim
    | cons y ys =>
      obtain ⟨g', o, e, hl, _⟩ := i.tear 0 y (by rw [ht]; rfl)
      subst e; injection hg with hg; change g' = g at hg; subst hg
      exact b.tag _ hl
def actA (x : Act) (ba ka ta : Option Addr) (bc kc tc : Nat) : Array Value := #[.int .i64 x.op, .int .i64 x.zone, .int .u32 x.addr, .int .u8 x.hd.1, .int .u32 x.hd.2.1, .int .u32 x.hd.2.2.1, .int .u32 x.hd.2.2.2, .slice ba x.b.length bc, .slice ka x.keep.length kc, .slice ta x.tear.length tc]
def actV (x : Act) (ba ka ta : Option Addr) (bc kc tc : Nat) : Value := .agg (actA x ba ka ta bc kc tc)
abbrev TTold : TypeId := 93
theorem zeroT : zeroC Tryd.prog TTold = #[.int .u32 0, .int .u8 0, .int .u32 0, .int .u32 0, .int .u32 0, .slice none 0 0, .int .i64 0] := by kernel_rfl
def toldA (a : Int) (x : Hd) (ba : Option Addr) (bl bc : Nat) (e : Int) : Array Value := #[.int .u32 a, .int .u8 x.1, .int .u32 x.2.1, .int .u32 x.2.2.1, .int .u32 x.2.2.2, .slice ba bl bc, .int .i64 e]
/-- An act on a device: what it answers, and what is there behind it. -/
def Did (L : Lo) (k : Nat) (t : Tags) (h : Heap) (b : Nat) (r : Dev × Told) (v : Value) (h' : Heap) : Prop :=
  ∃ a c t', v = .agg (toldA r.2.a r.2.hd a r.2.b.length c r.2.e) ∧ DRep L k t' h' b r.1 ∧ Fr (fun p => p.1 ≠ k) t h t' h' ∧ Im .u8 t' h' a r.2.b
theorem frLoc {k : Nat} {t t' : Tags} {h h4 h5 : Heap} {g : Nat} (f : Fr (fun p => p.1 ≠ k) t h t' h4) (u : Upd g h4 h5) (hg : h.size ≤ g) : Fr (fun p => p.1 ≠ k) t h t' h5 :=
  ⟨Nat.le_trans f.size u.size, f.tags, fun c hc hk => (u.same c (Nat.lt_of_lt_of_le hc f.size) (by omega)).trans (f.same c hc hk)⟩
/-- What is there behind a call, where two blocks are the caller's own. -/
structure Mid (L : Lo) (k : Nat) (t : Tags) (h : Heap) (p q : Nat) (b : Nat) (D : Dev) (xs : List Int) (a : Option Addr) (arr : Array Value) (t4 : Tags) (h4 : Heap) : Prop where
  bq : Blk h4 q arr TTold
  bp : Blk h4 p (toldA 0 hd0 none 0 0 0) TTold
  dev : DRep L k t4 h4 b D
  fr : Fr (fun p => p.1 ≠ k) t h t4 h4
  im : Im .u8 t4 h4 a xs
  tp : t4 p = (k + 1, 0)
  tq : t4 q = (k + 1, 0)
theorem Mid.new {L : Lo} {k : Nat} {t t4 : Tags} {h h4 h5 : Heap} {p q b : Nat} {D : Dev} {xs : List Int} {a : Option Addr} {arr : Array Value} (m : Mid L k t h p q b D xs a arr t4 h4) (n : New h4 h5) : Mid L k t h p q b D xs a arr t4 h5 :=
  ⟨m.bq.new n, m.bp.new n, m.dev.new n, m.fr.trans (Fr.new0 n), m.im.new n, m.tp, m.tq⟩
/-- A block of the caller's own is turned. -/
theorem Mid.loc {L : Lo} {k : Nat} {t t4 : Tags} {h h4 h5 : Heap} {p q b g : Nat} {D : Dev} {xs : List Int} {a : Option Addr} {arr : Array Value} (m : Mid L k t h p q b D xs a arr t4 h4) (tg : t4 g = (k + 1, 0)) (o : Only g h4 h5) (hg : h.size ≤ g) :
    DRep L k t4 h5 b D ∧ Fr (fun p => p.1 ≠ k) t h t4 h5 ∧ Im .u8 t4 h5 a xs := by
  have f : Fr (fun x => x ≠ (k + 1, 0)) t4 h4 t4 h5 := Fr.upd o.upd fun hn => hn tg
  have h0 : ∀ x : Nat × Nat, x.1 = 0 → x ≠ (k + 1, 0) := fun x hx e => by subst e; simp at hx
  exact ⟨m.dev.fr f h0 fun j e => by have := (Prod.mk.inj e).1; omega, frLoc m.fr o.upd hg, m.im.fr f h0⟩
theorem Mid.setq {L : Lo} {k : Nat} {t t4 : Tags} {h h4 h5 : Heap} {p q b : Nat} {D : Dev} {xs : List Int} {a : Option Addr} {arr arr' : Array Value} (m : Mid L k t h p q b D xs a arr t4 h4) (o : Only q h4 h5) (hq : h.size ≤ q) (hpq : p ≠ q) (bq : Blk h5 q arr' TTold) : Mid L k t h p q b D xs a arr' t4 h5 := by
  obtain ⟨d, f, im⟩ := m.loc m.tq o hq
  exact ⟨bq, m.bp.only o hpq, d, f, im, m.tp, m.tq⟩
theorem Mid.other {L : Lo} {k : Nat} {t t4 : Tags} {h h4 h5 : Heap} {p q b g : Nat} {D : Dev} {xs : List Int} {a : Option Addr} {arr : Array Value} (m : Mid L k t h p q b D xs a arr t4 h4) (tg : t4 g = (k + 1, 0)) (o : Only g h4 h5) (hg : h.size ≤ g) (hp : p ≠ g) (hq : q ≠ g) : Mid L k t h p q b D xs a arr t4 h5 := by
  obtain ⟨d, f, im⟩ := m.loc tg o hg
  exact ⟨m.bq.only o hq, m.bp.only o hp, d, f, im, m.tp, m.tq⟩
theorem ldAgg_add {cs : List CTy} {b o j : Nat} {arr : Array Value} {T : TypeId} {F : CT cs → Prop} {h : Heap} (s : CT cs) (hb : Blk h b arr T) (hc : Go.Pl.rowAt arr (o + j) (cvals cs s)) (hF : F s) : ldAggW cs (Addr.add ⟨b, o, none⟩ j) F h := by
  rw [add_mk]; exact ldAgg_blk s hb hc hF
theorem stL_add {b o j : Nat} {arr : Array Value} {T : TypeId} {vs : List Value} {F : Heap → Prop} {h : Heap} (hb : Blk h b arr T) (hl : o + j + vs.length ≤ arr.size) (hF : ∀ h', Blk h' b (setsA arr (o + j) vs) T → Only b h h' → F h') : stLW (Addr.add ⟨b, o, none⟩ j) vs F h := by
  rw [add_mk]; exact stL_blk hb hl hF
abbrev ToldC := Int × Int × Int × Int × Int × (Option Addr × Nat × Nat) × Int
def toldC (a : Int) (x : Hd) (ba : Option Addr) (bl bc : Nat) (e : Int) : ToldC := (a, x.1, x.2.1, x.2.2.1, x.2.2.2, (ba, bl, bc), e)
abbrev ToldT : List CTy := [.int .u32, .int .u8, .int .u32, .int .u32, .int .u32, .slice, .int .i64]
/-- The end of an act: what it answers is handed back. -/
theorem told_end {L : Lo} {k : Nat} {t t4 : Tags} {h h4 : Heap} {p q b c : Nat} {r : Dev × Told} {a : Option Addr} (m : Mid L k t h p q b r.1 r.2.b a (toldA r.2.a r.2.hd a r.2.b.length c r.2.e) t4 h4) (hpq : h.size ≤ p) :
    ldAggW ToldT ⟨q, 0, none⟩ (fun (x46 : ToldC) =>
      stLW ⟨p, 0, none⟩ [.int .u32 x46.1, .int .u8 x46.2.1, .int .u32 x46.2.2.1, .int .u32 x46.2.2.2.1, .int .u32 x46.2.2.2.2.1, .slice x46.2.2.2.2.2.1.1 x46.2.2.2.2.2.1.2.1 x46.2.2.2.2.2.1.2.2, .int .i64 x46.2.2.2.2.2.2] (fun h47 =>
      ldAggW ToldT ⟨p, 0, none⟩ (fun (x48 : ToldC) =>
      Did L k t h b r (.agg #[.int .u32 x48.1, .int .u8 x48.2.1, .int .u32 x48.2.2.1, .int .u32 x48.2.2.2.1, .int .u32 x48.2.2.2.2.1, .slice x48.2.2.2.2.2.1.1 x48.2.2.2.2.2.1.2.1 x48.2.2.2.2.2.1.2.2, .int .i64 x48.2.2.2.2.2.2]) h47) h47) h4) h4 := by
  refine ldAgg_blk (toldC r.2.a r.2.hd a r.2.b.length c r.2.e) m.bq ⟨rfl, rfl, rfl, rfl, rfl, rfl, rfl, trivial⟩ ?_
  refine stL_blk m.bp (Nat.le_refl 7) fun h7 b7 o7 => ?_
  have b7 : Blk h7 p (toldA r.2.a r.2.hd a r.2.b.length c r.2.e) TTold := by rw [setsA_all (by rfl)] at b7; exact b7
  obtain ⟨d, f, im⟩ := m.loc m.tp o7 hpq
  exact ldAgg_blk (toldC r.2.a r.2.hd a r.2.b.length c r.2.e) b7 ⟨rfl, rfl, rfl, rfl, rfl, rfl, rfl, trivial⟩ ⟨a, c, t4, rfl, d, f, im⟩
theorem do_ok {k b : Nat} {h0 : Heap} {t : Tags} {D : Dev} {z p : Int} (gk : GOk z p D) (g : Int) (x : Act) (ba ka ta : Option Addr) (bc kc tc : Nat) (h : Heap) (bs : Bs h0 t h) (i : ActIn h0 x ba bc ka ta) (r : PRep k t h b D) (hk : k ≠ 0) :
    CallsH Tryd.prog 45 [ptr b, geoV z p g, actV x ba ka ta bc kc tc] h (Did LoP k t h b (act z p D x)) := by
  refine fun_ok Geo.hm' Tryd.func45 (by kernel_rfl) (F45_eq _ _ _ _ _ _ _ _ _ _ _ _ _ _ _ _ _ _ _ _ _ h) ?_
  unfold F45
  rw [zeroT, zeroH]
  refine new_of fun h1 b1 n1 s1 => new_of fun h2 b2 n2 s2 => new_of fun h3 b3 n3 s3 => new_of fun h4 b4 n4 s4 => ?_
  have b2 : Blk h2 h1.size (actA x ba ka ta bc kc tc) 88 := b2
  have n04 := ((n1.trans n2).trans n3).trans n4
  have bg := ((b1.new n2).new n3).new n4
  have ba4 := (b2.new n3).new n4
  have bp4 : Blk h4 h2.size (toldA 0 hd0 none 0 0 0) TTold := b3.new n4
  have bq4 : Blk h4 h3.size (toldA 0 hd0 none 0 0 0) TTold := b4
  have f4 : Fr (fun p => p.1 ≠ k) t h (lay t h.size (k + 1, 0)) h4 := Fr.lay n04 _
  have bs4 := bs.own hk f4
  have r4 : PRep k (lay t h.size (k + 1, 0)) h4 b D := r.fr (S := fun _ => True) (Fr.lay n04 _) (fun _ _ => trivial) fun _ => trivial
  have tg : ∀ g, h.size ≤ g → lay t h.size (k + 1, 0) g = (k + 1, 0) := fun g hg => lay_ge hg
  generalize lay t h.size (k + 1, 0) = t4 at f4 bs4 r4 tg
  have c0 : cellH h4 (Addr.add ⟨h1.size, 0, none⟩ 0) = some (.int .i64 x.op) := by rw [add_mk, cellH_blk ba4]; rfl
  have c1 : cellH h4 (Addr.add ⟨h1.size, 0, none⟩ 1) = some (.int .i64 x.zone) := by rw [add_mk, cellH_blk ba4]; rfl
  have c7 : cellH h4 (Addr.add ⟨h1.size, 0, none⟩ 7) = some (.slice ba x.b.length bc) := by rw [add_mk, cellH_blk ba4]; rfl
  have c8 : cellH h4 (Addr.add ⟨h1.size, 0, none⟩ 8) = some (.slice ka x.keep.length kc) := by rw [add_mk, cellH_blk ba4]; rfl
  have c9 : cellH h4 (Addr.add ⟨h1.size, 0, none⟩ 9) = some (.slice ta x.tear.length tc) := by rw [add_mk, cellH_blk ba4]; rfl
  have hS1 : ((k + 1, 0) : Nat × Nat).1 ≠ k := by simp
  have m4 : Mid LoP k t h h2.size h3.size b D [] none (toldA 0 hd0 none 0 0 0) t4 h4 := ⟨bq4, bp4, r4, f4, Im.nil .., tg _ (by omega), tg _ (by omega)⟩
  -- where nothing was turned but by the device's owner
  have mid : ∀ (h5 : Heap) (t5 : Tags) (E : Dev), PRep k t5 h5 b E → Fr (fun p => p.1 ≠ k) t4 h4 t5 h5 → Mid LoP k t h h2.size h3.size b E [] none (toldA 0 hd0 none 0 0 0) t5 h5 := fun h5 t5 E r5 f5 =>
    ⟨f5.blk bq4 (by rw [tg _ (by omega)]; exact hS1), f5.blk bp4 (by rw [tg _ (by omega)]; exact hS1), r5, f4.trans f5, Im.nil .., by rw [f5.tags _ bp4.lt]; exact tg _ (by omega), by rw [f5.tags _ bq4.lt]; exact tg _ (by omega)⟩
  refine cut_q (ts := [.sc .any]) (fun (e : Value) h5 => ∃ a c t5 l, ErrC h5 e l (act z p D x).2.e ∧ Mid LoP k t h h2.size h3.size b (act z p D x).1 (act z p D x).2.b a (toldA (act z p D x).2.a (act z p D x).2.hd a (act z p D x).2.b.length c 0) t5 h5) ?_ ?_
  · rintro e h5 ⟨a, c, t5, l, he, m5⟩ _
    have he : ErrC h5 e l (act z p D x).2.e := he
    have bs5 := bs.own hk m5.fr
    refine call_of (code_ok e l _ h5 bs5.lay he) ?_
    rintro v h6 ⟨rfl, n6⟩
    refine ⟨(act z p D x).2.e, rfl, ?_⟩
    rw [add_mk]
    have m6 := m5.new n6
    refine st_blk m6.bq (show 0 + 6 < 7 by omega) fun h7 b7 o7 => ?_
    exact told_end (m6.setq o7 (by omega) (by omega) b7) (by omega)
  · intro K hK
    refine ld_of (c := .int .i64) x.op c0 (br_of (fun e0 => ?_) fun e0 => br_of (fun e1 => ?_) fun e1 => br_of (fun e2 => ?_) fun e2 => br_of (fun e3 => ?_) fun e3 => br_of (fun e4 => ?_) fun e4 => br_of (fun e5 => ?_) fun e5 => ?_)
    · have e0 : x.op = 0 := by simpa using e0
      have ea : act z p D x = ((putM z p D x.zone x.hd x.b).1, ⟨(putM z p D x.zone x.hd x.b).2.1, hd0, [], (putM z p D x.zone x.hd x.b).2.2⟩) := by unfold act; rw [if_pos e0]
      refine ldAgg_blk (z, p, g) bg ⟨rfl, rfl, rfl, trivial⟩ (ld_of (c := .int .i64) x.zone c1 (ldAgg_add (o := 0) x.hd ba4 ⟨rfl, rfl, rfl, rfl, trivial⟩ (ld_of (c := .slice) (ba, x.b.length, bc) c7 (call_of (put_ok hk gk g x.zone x.hd i.hd ba bc x.b h4 r4 (i.b.new (bs.new.trans n04))) ?_))))
      rintro v h5 ⟨e, l, rfl, he, t5, r5, f5⟩
      have m5 := mid h5 t5 _ r5 f5
      refine ⟨((putM z p D x.zone x.hd x.b).2.1, e), rfl, ?_⟩
      rw [add_mk]
      refine st_blk m5.bq (show 0 + 0 < 7 by omega) fun h6 b6 o6 => hK _ _ ?_
      rw [ea]
      exact ⟨none, 0, t5, l, errs m5.bq (by decide) o6 he, m5.setq o6 (by omega) (by omega) b6⟩
    · have e0 : ¬ x.op = 0 := by simpa using e0
      have e1 : x.op = 1 := by simpa using e1
      have ea : act z p D x = (D, ⟨0, (getM z p D x.addr).1, (getM z p D x.addr).2.1, (getM z p D x.addr).2.2⟩) := by unfold act; rw [if_neg e0, if_pos e1]
      refine new_of fun h5 b5 n5 s5 => ldAgg_blk (z, p, g) (bg.new n5) ⟨rfl, rfl, rfl, trivial⟩ (ld_of (c := .int .u32) x.addr (by rw [add_mk, cellH_blk (ba4.new n5)]; rfl) (call_of (get_ok gk g x.addr i.addr h5 (r4.new n5)) ?_))
      rintro v h6 ⟨a6, c6, e, l, rfl, he, g6⟩
      rw [ea] at hK
      generalize getM z p D x.addr = G at g6 he hK ea ⊢
      have f6 : Fr (fun p => p.1 ≠ k) t4 h4 (lay t4 h5.size (0, 0)) h6 := (Fr.new0 n5).trans (Fr.lay g6.new _)
      have r6 : PRep k (lay t4 h5.size (0, 0)) h6 b D := PRep.lay (r4.new n5) g6.new
      have m6' := mid h6 _ D r6 f6
      have tl : lay t4 h5.size (0, 0) h4.size = (k + 1, 0) := by rw [lay_lt (by omega)]; exact tg _ (by omega)
      have m6 : Mid LoP k t h h2.size h3.size b D G.2.1 a6 (toldA 0 hd0 none 0 0 0) (lay t4 h5.size (0, 0)) h6 := ⟨m6'.bq, m6'.bp, m6'.dev, m6'.fr, Im.got g6 (t := t4) (0, 0) rfl, m6'.tp, m6'.tq⟩
      have b56 : Blk h6 h4.size (hdA (0, 0, 0, 0)) 24 := b5.new g6.new
      refine ⟨(G.1, (a6, G.2.1.length, c6), e), rfl, stL_blk b56 (Nat.le_refl 4) fun h7 b7 o7 => ?_⟩
      rw [setsA_all (by rfl)] at b7
      have m7 := m6.other tl o7 (by omega) (by omega) (by omega)
      have he7 := errs b56 (by decide) o7 he
      rw [add_mk]
      refine st_blk m7.bq (show 0 + 5 < 7 by omega) fun h8 b8 o8 => ?_
      have m8 := m7.setq o8 (by omega) (by omega) b8
      have he8 := errs m7.bq (by decide) o8 he7
      refine ldAgg_blk G.1 (b7.only o8 (by omega)) ⟨rfl, rfl, rfl, rfl, trivial⟩ (stL_add b8 (by rw [Array.size_setIfInBounds]; exact (show 5 ≤ 7 by decide)) fun h9 b9 o9 => hK _ _ ?_)
      exact ⟨a6, c6, _, l, errs b8 (by decide) o9 he8, m8.setq o9 (by omega) (by omega) b9⟩
    · have e0 : ¬ x.op = 0 := by simpa using e0
      have e1 : ¬ x.op = 1 := by simpa using e1
      have e2 : x.op = 2 := by simpa using e2
      have ea : act z p D x = ((D.reset x.zone).1, ⟨0, hd0, [], (D.reset x.zone).2⟩) := by unfold act; rw [if_neg e0, if_neg e1, if_pos e2]
      refine ld_of (c := .int .i64) x.zone c1 (call_of (ZnsP.reset_ok gk.ok x.zone h4 r4) ?_)
      rintro v h5 ⟨rfl, t5, r5, f5⟩
      refine ⟨errV (D.reset x.zone).2, rfl, hK _ _ ?_⟩
      rw [ea]; exact ⟨none, 0, t5, [], rfl, mid h5 t5 _ r5 f5⟩
    · have e0 : ¬ x.op = 0 := by simpa using e0
      have e1 : ¬ x.op = 1 := by simpa using e1
      have e2 : ¬ x.op = 2 := by simpa using e2
      have e3 : x.op = 3 := by simpa using e3
      have ea : act z p D x = (D.flush.1, ⟨0, hd0, [], D.flush.2⟩) := by unfold act; rw [if_neg e0, if_neg e1, if_neg e2, if_pos e3]
      refine call_of (ZnsP.flush_ok gk.ok h4 r4) ?_
      rintro v h5 ⟨rfl, t5, r5, f5⟩
      refine ⟨errV D.flush.2, rfl, hK _ _ ?_⟩
      rw [ea]; exact ⟨none, 0, t5, [], rfl, mid h5 t5 _ r5 f5⟩
    · have e0 : ¬ x.op = 0 := by simpa using e0
      have e1 : ¬ x.op = 1 := by simpa using e1
      have e2 : ¬ x.op = 2 := by simpa using e2
      have e3 : ¬ x.op = 3 := by simpa using e3
      have e4 : x.op = 4 := by simpa using e4
      have ea : act z p D x = (D.setFuse x.zone, no) := by unfold act; rw [if_neg e0, if_neg e1, if_neg e2, if_neg e3, if_pos e4]
      refine ld_of (c := .int .i64) x.zone c1 (call_of (ZnsP.fuse_ok x.zone h4 r4) ?_)
      rintro v h5 ⟨rfl, r5, u5⟩
      obtain ⟨t5, r5, f5⟩ := ZnsP.Acted.of_upd r4 r5 u5
      refine ⟨(), rfl, hK _ _ ?_⟩
      rw [ea]; exact ⟨none, 0, t5, [], rfl, mid h5 t5 _ r5 f5⟩
    · have e0 : ¬ x.op = 0 := by simpa using e0
      have e1 : ¬ x.op = 1 := by simpa using e1
      have e2 : ¬ x.op = 2 := by simpa using e2
      have e3 : ¬ x.op = 3 := by simpa using e3
      have e4 : ¬ x.op = 4 := by simpa using e4
      have e5 : x.op = 5 := by simpa using e5
      have ea : act z p D x = (D.crash x.keep x.tear, no) := by unfold act; rw [if_neg e0, if_neg e1, if_neg e2, if_neg e3, if_neg e4, if_pos e5]
      refine ld_of (c := .slice) (ka, x.keep.length, kc) c8 (ld_of (c := .slice) (ta, x.tear.length, tc) c9 (call_of (ZnsP.crash_ok gk.ok ka kc x.keep ta tc x.tear h4 r4 (bs4.ins i) i.kw) ?_))
      rintro v h5 ⟨rfl, t5, r5, f5⟩
      refine ⟨(), rfl, hK _ _ ?_⟩
      rw [ea]; exact ⟨none, 0, t5, [], rfl, mid h5 t5 _ r5 f5⟩
    · have e0 : ¬ x.op = 0 := by simpa using e0
      have e1 : ¬ x.op = 1 := by simpa using e1
      have e2 : ¬ x.op = 2 := by simpa using e2
      have e3 : ¬ x.op = 3 := by simpa using e3
      have e4 : ¬ x.op = 4 := by simpa using e4
      have e5 : ¬ x.op = 5 := by simpa using e5
      have ea : act z p D x = (D, no) := by unfold act; rw [if_neg e0, if_neg e1, if_neg e2, if_neg e3, if_neg e4, if_neg e5]
      refine hK _ _ ?_
      rw [ea]; exact ⟨none, 0, t4, [], rfl, m4⟩
end Go.Proofs.YtgohecjnjadnpaaDoor.MedA
