/-
  What MediaApart of layer 16 comes to.
-/
import Derived.Test.YtgohecjnjadnpaaDoorMedL
import Derived.Test.YtgohecjnjadnpaaDoorR2
import Derived.Test.YtgohecjnjadnpaaDoorWL16A
namespace Go.Proofs.YtgohecjnjadnpaaDoor.MedX
open Go.Pl Go.Proofs.YtgohecjnjadnpaaDoor.W Go.Proofs.YtgohecjnjadnpaaDoor.Byts Go.Proofs.YtgohecjnjadnpaaDoor.As Go.Proofs.YtgohecjnjadnpaaDoor.Err Go.Proofs.YtgohecjnjadnpaaDoor.Head Go.Proofs.YtgohecjnjadnpaaDoor.HdP Go.Proofs.YtgohecjnjadnpaaDoor.Zns Go.Proofs.YtgohecjnjadnpaaDoor.ZnsP Go.Proofs.YtgohecjnjadnpaaDoor.Geo Go.Proofs.YtgohecjnjadnpaaDoor.Med Go.Proofs.YtgohecjnjadnpaaDoor.MedA
theorem geo_in {h : Heap} {v : Value} {x : Int × Int × Int} (r : ReadsV h GeoS v x) : v = geoV x.1 x.2.1 x.2.2 := by
  obtain ⟨cs, rfl, c1, d1, rfl, ⟨rfl, _⟩, c2, d2, rfl, ⟨rfl, _⟩, ⟨rfl, _⟩⟩ := r
  rfl
theorem actV_in {h : Heap} {v : Value} {x : ActT} (r : ReadsV h ActS v x) : ∃ ba bc ka kc ta tc, v = actV (actOf x) ba ka ta bc kc tc ∧ ActIn h (actOf x) ba bc ka ta := by
  obtain ⟨cs, rfl, r⟩ := r
  obtain ⟨ba, bc, ka, kc, ta, tc, rfl, i⟩ := act_in r
  exact ⟨ba, bc, ka, kc, ta, tc, rfl, i⟩
theorem Grow.trans {h0 h h' : Heap} {r0 : Option Nat} {e : TypeId} {size n c n' c' : Nat} {a a' : Option Addr} {xs ys : List Value} (g : Grow h0 r0 h e size a n c xs) (g' : Grow h (blkOf a) h' e size a' n' c' ys) : Grow h0 r0 h' e size a' n' c' ys := by
  refine ⟨g'.row, ⟨Nat.le_trans g.upd.size g'.upd.size, fun k hk hr => ?_⟩, ?_⟩
  · refine (g'.upd.same k (Nat.lt_of_lt_of_le hk g.upd.size) fun e => ?_).trans (g.upd.same k hk hr)
    rcases g.at_ with h1 | ⟨b, h1, h2, _⟩
    · exact hr (by rw [e, h1])
    · rw [h1] at e; injection e with e; omega
  · rcases g'.at_ with h1 | ⟨b, h1, h2, h3⟩
    · rw [h1]
      rcases g.at_ with h4 | ⟨b, h4, h5, h6⟩
      · exact .inl h4
      · exact .inr ⟨b, h4, h5, Nat.lt_of_lt_of_le h6 g'.upd.size⟩
    · exact .inr ⟨b, h1, by have := g.upd.size; omega, h3⟩
/-- The row's block is there. -/
theorem Grow.lt {h0 h : Heap} {q n c size : Nat} {e : TypeId} {a : Option Addr} {xs : List Value} (g : Grow h0 (some q) h e size a n c xs) (hq : q < h0.size) : ∀ b, blkOf a = some b → b < h.size := fun b hb => by
  have := g.upd.size
  rcases g.at_ with h1 | ⟨b', h1, _, h2⟩
  · rw [h1] at hb; injection hb with hb; omega
  · rw [h1] at hb; injection hb with hb; omega
theorem PR.upd {h h' : Heap} {a : Option Addr} {L : List Pg} {q : Nat} {T : TypeId} (r : PR h a L) (hb : Blk h q #[] T) (u : UpdO (some q) h h') : PR h' a L := fun i y hy => by
  obtain ⟨b, o, rfl, hlt, hc⟩ := r i y hy
  have hne : b ≠ q := fun e => by
    subst e
    have := hc 0 (by decide)
    rw [cellH_blk hb] at this
    simp [pgV] at this
  exact ⟨b, o, rfl, Nat.lt_of_lt_of_le hlt u.size, fun j hj => by rw [cellH_same (u.same b hlt fun e => hne (Option.some.inj e))]; exact hc j hj⟩
theorem PR.ld' {h : Heap} {a : Option Addr} {L : List Pg} (r : PR h a L) {i n : Nat} (hi : i < L.length) (hn : i < n) {q : Pg} (hq : L[i] = q) {F : PgC → Prop} (hF : F (q.1, q.2.1, q.2.2.1, q.2.2.2.1, q.2.2.2.2)) :
    ptrW a (fun p => idxW (i : Int) n true (ldAggW [.int .u32, .int .u8, .int .u32, .int .u32, .int .u32] (Addr.add p (Int.toNat (i : Int) * 5)) F h)) := by subst hq; exact r.ld hi hn hF
theorem alls_len {z p : Int} {D : Dev} (g : GOk z p D) : (alls z p D).length ≤ 352 := by
  have h1 := preI_len g (z - 2).toNat 0
  rw [preI_zero] at h1
  have := g.zr
  have e : preZ p D (z - 2).toNat = alls z p D := rfl
  rw [e] at h1; omega
theorem scan_len {z p : Int} {D : Dev} (g : GOk z p D) : (scanM z p D).length ≤ 352 := Nat.le_trans (fl_le z p D _) (alls_len g)
theorem wantP_len (ok : Bool) (y : Pg) (l : List Pg) : (wantP ok y l).length ≤ 2 * l.length + 1 := by
  unfold wantP lo hi
  have h1 := List.length_filter_le (fun q : Pg => decide (q.1 < y.1)) l
  have h2 := List.length_filter_le (fun q : Pg => decide (y.1 < q.1)) l
  split
  · rw [List.length_append]
    split
    · simp; omega
    · rw [List.length_cons]; omega
  · omega
/-- The last page of a row, its address. -/
theorem last_at {h : Heap} {a : Option Addr} {L : List Pg} (r : PR h a L) (hl : L.length ≤ 2000) {n : Nat} (hn : n = L.length) {x : Pg} (hx : L.getLast? = some x) {F : Int → Prop} (hF : F x.1) :
    ptrW a (fun p => idxW (IntKind.wrap .i64 ((n : Int) - (1 : Int))) n true (ldW (.int .u32) (Addr.add (Addr.add p (Int.toNat (IntKind.wrap .i64 ((n : Int) - (1 : Int))) * 5)) 0) F h)) := by
  subst hn
  have hp : 0 < L.length := by
    cases L with
    | nil => simp at hx
    | cons y l => simp
  have e : IntKind.wrap .i64 ((L.length : Int) - 1) = ((L.length - 1 : Nat) : Int) := by rw [wr64 (by omega) (by omega)]; omega
  rw [e]
  rw [List.getLast?_eq_getElem?, List.getElem?_eq_getElem (by omega)] at hx
  have hx := Option.some.inj hx
  exact PR.addr r (i := L.length - 1) (by omega) (by omega) (by rw [hx]; exact hF)
theorem notLarge {l : List ActT} (h : isLarge l = false) : l.length ≤ 100 ∧ ∀ x ∈ l, small (actOf x) := by
  unfold isLarge at h; simpa using h
set_option maxHeartbeats 1000000 in
theorem apart_law (h : Heap) (v0 v1 v2 : Value) (g : Int × Int × Int) (l : List ActT) (x : ActT) (r0 : ReadsV h GeoS v0 g) (r1 : ReadsV h (.slice ActS) v1 l) (r2 : ReadsV h ActS v2 x) (hg : Laid h) :
    CallsH Tryd.prog 12 [v0, v1, v2] h fun v h' => v = .bool true ∧ New h h' := by
  obtain rfl := geo_in r0
  obtain ⟨la, lc, rfl, _, _, _, sl⟩ := SlAt.reads r1
  obtain ⟨ba, bc, ka, kc, ta, tc, rfl, xin⟩ := actV_in r2
  obtain ⟨z, p, gb⟩ := g
  generalize actOf x = X at xin
  refine fun_ok Geo.hm' Tryd.func12 (by kernel_rfl) (F12_eq _ _ _ _ _ _ _ _ _ _ _ _ _ _ _ _ _ _ _ _ _ _ _ h) ?_
  unfold F12
  refine new_of fun h1 b1 n1 s1 => new_of fun h2 b2 n2 s2 => call_of (awake_ok h2 (hg.new (n1.trans n2))) ?_
  rintro v h3 ⟨rfl, n3⟩
  have n03 := (n1.trans n2).trans n3
  have b1 : Blk h3 h.size #[.int .i64 z, .int .i64 p, .int .i64 gb] 85 := (b1.new n2).new n3
  have b2 : Blk h3 h1.size (actA X ba ka ta bc kc tc) 88 := b2.new n3
  refine ⟨true, rfl, br_f rfl (cut_q (ts := []) (fun _ h' => New h3 h' ∧ rightB z p gb = true ∧ isLarge l = false ∧ X.b.length ≤ 100) ?_ ?_)⟩
  rotate_left
  · intro K hK
    refine ldAgg_blk (z, p, gb) b1 ⟨rfl, rfl, rfl, trivial⟩ (call_of (R2.rright_ok z p gb h3) ?_)
    rintro v h4 ⟨rfl, n4⟩
    refine ⟨_, rfl, br_of (fun hr => ⟨rfl, n03.trans n4⟩) fun hr => call_of (large_ok la lc l h4 (sl.new (n03.trans n4))) ?_⟩
    rintro v h5 ⟨rfl, n5⟩
    have n05 := (n03.trans n4).trans n5
    refine ⟨_, rfl, br_of (fun hl => ⟨rfl, n05⟩) fun hl => ld_of (c := .slice) (ba, X.b.length, bc) (by rw [add_mk, cellH_blk ((b2.new n4).new n5)]; rfl) (br_of (fun hb => ⟨rfl, n05⟩) fun hb => hK _ _ ⟨n4.trans n5, by simpa using hr, by simpa using hl, ?_⟩)⟩
    have hb : ¬ (X.b.length : Int) > 100 := of_decide_eq_false hb
    omega
  rintro _ h4 ⟨n4, hr, hl, hb⟩ _
  have b1 := b1.new n4
  have b2 := b2.new n4
  have n04 := n03.trans n4
  obtain ⟨hz, hp, _, _⟩ := right_facts hr
  have hl100 := (notLarge hl).1
  obtain ⟨zn, rfl⟩ := Int.eq_ofNat_of_zero_le (show 0 ≤ z by omega)
  obtain ⟨pn, rfl⟩ := Int.eq_ofNat_of_zero_le (show 0 ≤ p by omega)
  refine ld_of (c := .int .i64) (zn : Int) (by rw [add_mk, cellH_blk b1]; rfl) (ld_of (c := .int .i64) (pn : Int) (by rw [add_mk, cellH_blk b1]; rfl) (call_of (ZnsP.new_ok 1 (by decide) (fun _ => (0, 0)) zn pn h4 (by omega) (by omega)) ?_))
  rintro v h5 ⟨b, rfl, n5, _, t5, ht5, r5⟩
  have gk5 : GOk (zn : Int) (pn : Int) (Dev.empty zn pn) := ⟨by omega, by omega, by simp [Dev.empty], rfl, DevOk.empty (by omega) (by omega)⟩
  have bs5 : Bs h4 t5 h5 := (Bs.start (hg.new n04)).tags n5 ht5
  have r5 : PRep 1 t5 h5 b (Dev.empty zn pn) := r5
  generalize Dev.empty zn pn = D5 at r5 gk5
  refine ⟨(some ⟨b, 0, none⟩, errV 0), rfl, br_f rfl ?_⟩
  refine ⟨fun (s : Int) h' => ∃ (i : Nat) (t : Tags) (D : Dev), s = i ∧ i ≤ l.length ∧ GOk (zn : Int) (pn : Int) D ∧ PRep 1 t h' b D ∧ Bs h4 t h', fun (s : Int) _ => ((l.length : Int) - s).toNat, ⟨0, t5, D5, rfl, Nat.zero_le _, gk5, r5, bs5⟩, ?_⟩
  rintro s j h6 ⟨i, t6, D6, rfl, hi, gk6, r6, bs6⟩
  refine br_of (fun hlt => ?_) (fun hlt => ?_)
  · have hlt : (i : Int) < (l.length : Int) := of_decide_eq_true hlt
    have hlt : i < l.length := by omega
    obtain ⟨lb, lbc, lk, lkc, lt, ltc, lin, ld⟩ := act_at sl (n04.trans bs6.new) hlt
    refine ld hlt (new_stL (by rw [zeroAct]; rfl) fun h7 b7 n7 s7 => ?_)
    have b7 : Blk h7 h6.size (actA (actOf l[i]) lb lk lt lbc lkc ltc) 88 := b7
    have bs7 := bs6.newer n7
    refine ldAgg_blk ((zn : Int), (pn : Int), gb) (b1.new bs7.new) ⟨rfl, rfl, rfl, trivial⟩ (ldAct b7 (call_of (do_ok gk6 gb (actOf l[i]) lb lk lt lbc lkc ltc h7 bs7 (lin.new n04) (r6.new n7) (by decide)) ?_))
    rintro v h8 ⟨a8, c8, t8, rfl, r8, f8, _⟩
    refine ⟨toldC _ _ a8 _ c8 _, rfl, ?_⟩
    rw [wr64 (by omega) (by omega)]
    exact ⟨⟨i + 1, t8, _, by omega, hlt, GOk.act gk6 lin, r8, bs7.own (by decide) f8⟩, (by first | omega | (dsimp only; omega) | (simp only []; omega))⟩
  clear hlt
  have ins : ZnsP.Ins t6 h6 none [] none [] := ⟨Ar.nil _ _ _, fun i x hx => by simp at hx, fun e => (e rfl).elim, fun e => (e rfl).elim⟩
  refine call_of (ZnsP.crash_ok gk6.ok none 0 [] none 0 [] h6 r6 ins (fun x hx => by cases hx)) ?_
  rintro v h7 ⟨rfl, t7, r7, f7⟩
  have bs7 := bs6.own (by decide) f7
  have gk7 : GOk (zn : Int) (pn : Int) (D6.crash [] []) := GOk.of gk6 (gk6.ok.crash _ _) ⟨by simp [Dev.crash], rfl⟩
  have hd7 : (D6.crash [] []).down = false := rfl
  have hf7 : (D6.crash [] []).fuse ≠ 0 := by show (-1 : Int) ≠ 0; decide
  generalize D6.crash [] [] = D at r7 gk7 hd7 hf7
  refine ⟨(), rfl, ldAgg_blk ((zn : Int), (pn : Int), gb) (b1.new bs7.new) ⟨rfl, rfl, rfl, trivial⟩ (call_of (scan_ok gk7 gb h7 r7) ?_)⟩
  rintro v h8 ⟨⟨a8, c8, rfl, ow8⟩, n8⟩
  refine ⟨(a8, (scanM (zn : Int) (pn : Int) D).length, c8), rfl, ?_⟩
  have f8 : Fr (fun q => q.1 ≠ 1) t7 h7 (lay t7 h7.size (0, 0)) h8 := Fr.lay n8 _
  have bs8 := bs7.own (by decide) f8
  have r8 := PRep.lay r7 n8
  have b18 := b1.new bs8.new
  have b28 := b2.new bs8.new
  refine ldAgg_blk ((zn : Int), (pn : Int), gb) b18 ⟨rfl, rfl, rfl, trivial⟩ (ld_of (c := .int .i64) X.zone (by rw [add_mk, cellH_blk b28]; rfl) (ldAgg_add (o := 0) X.hd b28 ⟨rfl, rfl, rfl, rfl, trivial⟩ (ld_of (c := .slice) (ba, X.b.length, bc) (by rw [add_mk, cellH_blk b28]; rfl) (call_of (put_ok (by decide) gk7 gb X.zone X.hd xin.hd ba bc X.b h8 r8 (xin.b.new (n04.trans bs8.new))) ?_))))
  rintro v h9 ⟨e, el, rfl, he, t9, r9, f9⟩
  have bs9 := bs8.own (by decide) f9
  have gk9 : GOk (zn : Int) (pn : Int) (putM (zn : Int) (pn : Int) D X.zone X.hd X.b).1 := GOk.put gk7 _ xin.hd xin.b.byt
  obtain ⟨hno, hscan⟩ := scan_put (z := (zn : Int)) (p := (pn : Int)) gk7 hd7 hf7 (zone := X.zone) (bs := X.b) xin.hd xin.b.byt
  have hup := scan_up gk7
  have hlen := scan_len gk7
  have pr9 : PR h9 a8 (scanM (zn : Int) (pn : Int) D) := PR.own (ow8.keep fun q cur hq hb' _ => f9.same q hb'.lt (by rw [lay_ge hq]; decide))
  have eok := he.ok
  obtain ⟨eok1, eok2⟩ := eok
  generalize (putM (zn : Int) (pn : Int) D X.zone X.hd X.b).1 = E at *
  generalize (putM (zn : Int) (pn : Int) D X.zone X.hd X.b).2.2 = code at *
  generalize (putM (zn : Int) (pn : Int) D X.zone X.hd X.b).2.1 = ad at *
  generalize scanM (zn : Int) (pn : Int) D = L at *
  have hne : decide (code = 0) = true → ∀ q ∈ L, q.1 ≠ ad := fun hc q hq => hno q hq (of_decide_eq_true hc)
  generalize hok : decide (code = 0) = ok at *
  refine ⟨(ad, e), rfl, new_of fun h10 b10 n10 s10 => call_of (pages_ok h10 a8 c8 L (by omega) (pr9.new n10)) ?_⟩
  rintro v h11 ⟨a11, c11, rfl, row11, n11⟩
  refine ⟨(a11, L.length, c11), rfl, ?_⟩
  have n911 := n10.trans n11
  have bs11 := bs9.newer n911
  have pr11 : PR h11 a11 L := PR.row row11
  have bq11 := b10.new n11
  have hq11 : h9.size < h11.size := bq11.lt
  have hr0 : ∀ q : Nat, some h9.size = some q → h9.size ≤ q := fun q e => by injection e with e; omega
  have n09 : New h h9 := n04.trans bs9.new
  have b29 := b2.new bs9.new
  have b19 := b1.new bs9.new
  obtain ⟨y, hy⟩ : ∃ y : Pg, y = (ad, X.hd) := ⟨_, rfl⟩
  have hy1 : y.1 = ad := by rw [hy]
  have w0 : wantP ok y (L.take 0) = [] := by cases ok <;> rfl
  refine ⟨fun (s : Sc × Int) h' => ∃ i : Nat, s.2 = i ∧ i ≤ L.length ∧ s.1.2.1 = (wantP ok y (L.take i)).length ∧ Grow h11 (some h9.size) h' TR 5 s.1.1 (wantP ok y (L.take i)).length s.1.2.2 (pgs (wantP ok y (L.take i))), fun (s : Sc × Int) _ => ((L.length : Int) - s.2).toNat, ⟨0, rfl, Nat.zero_le _, by rw [w0]; rfl, by rw [w0]; exact Grow.start (RowS.nil' h11 TR 5 (some ⟨h9.size, 0, none⟩))⟩, ?_⟩
  rintro ⟨⟨oa, on, oc⟩, s⟩ j h12 ⟨i, hs, hi, hon, g12o⟩
  have hs : s = (i : Int) := hs
  have hon : on = (wantP ok y (L.take i)).length := hon
  have g12 : Grow h11 (some h9.size) h12 TR 5 oa (wantP ok y (L.take i)).length oc (pgs (wantP ok y (L.take i))) := g12o
  clear g12o
  subst hs; subst hon
  have n912 : New h9 h12 := g12.upd.grow n911 hr0
  have hWl : (wantP ok y (L.take i)).length ≤ 800 := by
    have := wantP_len ok y (L.take i)
    have : (L.take i).length ≤ L.length := by rw [List.length_take]; omega
    omega
  have holt := Grow.lt g12 hq11
  have prW : PR h12 oa (wantP ok y (L.take i)) := PR.row g12.row
  refine br_of (fun hlt => ?_) (fun hlt => ?_)
  · have hlt : (i : Int) < (L.length : Int) := of_decide_eq_true hlt
    have hiL : i < L.length := by omega
    have et : L.take i ++ [L[i]] = L.take (i + 1) := List.take_append_getElem hiL
    have step : ok = true → ∀ q ∈ L.take i ++ [L[i]], q.1 ≠ y.1 := fun hc q hq => by
      rw [et] at hq; rw [hy1]; exact hne hc q (List.mem_of_mem_take hq)
    have hstep : wantP ok y (L.take i ++ [L[i]]) = (if aheadP ok y (wantP ok y (L.take i)) L[i] = true then wantP ok y (L.take i) ++ [y] else wantP ok y (L.take i)) ++ [L[i]] := by
      cases hc : ok with
      | false => simp [wantP, aheadP]
      | true => exact wantP_step (by rw [et]; exact List.Pairwise.sublist (List.take_sublist _ _) hup) (step hc)
    rw [et] at hstep
    generalize hW : wantP ok y (L.take i) = W at *
    generalize hqq : L[i] = q at *
    refine PR.ld' (PR.upd pr11 bq11 g12.upd) hiL hiL hqq (new_stL (by rw [zeroPR]; rfl) fun h13 b13 n13 s13 => ?_)
    have hb13 : Blk h13 h12.size #[.int .u32 q.1, .int .u8 q.2.1, .int .u32 q.2.2.1, .int .u32 q.2.2.2.1, .int .u32 q.2.2.2.2] TR := b13
    have row13 := g12.row.new n13
    have prW13 := prW.new n13
    generalize hW' : (if aheadP ok y W q = true then W ++ [y] else W) = W' at hstep
    refine cut_q (ts := [.sc .slice]) (fun (s : Sc) h' => s.2.1 = W'.length ∧ Grow h13 (blkOf oa) h' TR 5 s.1 W'.length s.2.2 (pgs W')) ?_ ?_
    rotate_left
    · intro K hK
      refine cut_q (ts := [.sc .bool]) (fun (s : Bool) h' => h' = h13 ∧ s = aheadP ok y W q) ?_ ?_
      · rintro s h' ⟨hh, hs⟩ _
        subst h'
        have hs : s = aheadP ok y W q := hs
        refine br_of (fun hc => ?_) (fun hc => hK _ _ ?_)
        · have hc : aheadP ok y W q = true := hs.symm.trans hc
          rw [if_pos hc] at hW'
          subst W'
          refine ldAgg_add (o := 0) X.hd ((b29.new n912).new n13) ⟨rfl, rfl, rfl, rfl, trivial⟩ ?_
          subst hy
          exact grow_pg (ad, X.hd) (Grow.start row13) (by omega) fun a' c' h' g' => hK (a', _, c') h' ⟨rfl, g'⟩
        · have hc : aheadP ok y W q = false := hs.symm.trans hc
          rw [if_neg (by rw [hc]; simp)] at hW'
          subst W'
          exact ⟨rfl, Grow.start row13⟩
      · intro K2 hK2
        have hlast : ∀ {F : Int → Prop} (x : Pg), W.getLast? = some x → F x.1 → ptrW oa (fun p => idxW (IntKind.wrap .i64 ((W.length : Int) - (1 : Int))) W.length true (ldW (.int .u32) (Addr.add (Addr.add p (Int.toNat (IntKind.wrap .i64 ((W.length : Int) - (1 : Int))) * 5)) 0) F h13)) := fun x hx hF => last_at prW13 (by omega) rfl hx hF
        have hld : ∀ {F : Int → Prop}, F q.1 → ldW (.int .u32) (Addr.add ⟨h12.size, 0, none⟩ 0) F h13 := fun hF => ld_of (c := .int .u32) q.1 (by rw [add_mk, cellH_blk hb13]; rfl) hF
        have hf : ok = false → K2 false h13 := fun hc => hK2 _ _ ⟨rfl, by rw [hc]; rfl⟩
        have full : ok = true → W.length > 0 → ifW e (br (isNilV e) (br (decide ((W.length : Int) > (0 : Int)))
            (ptrW oa (fun p => idxW (IntKind.wrap .i64 ((W.length : Int) - (1 : Int))) W.length true (ldW (.int .u32) (Addr.add (Addr.add p (Int.toNat (IntKind.wrap .i64 ((W.length : Int) - (1 : Int))) * 5)) 0) (fun (x60 : Int) => br (decide (x60 < ad)) (ldW (.int .u32) (Addr.add ⟨h12.size, 0, none⟩ 0) (fun (x61 : Int) => K2 (decide (ad < x61)) h13) h13) (K2 false h13)) h13))) (K2 false h13)) (K2 false h13)) := fun hc h0 => by
          obtain ⟨x, hx⟩ : ∃ x, W.getLast? = some x := by
            cases hg : W.getLast? with
            | none => rw [List.getLast?_eq_none_iff] at hg; subst hg; simp at h0
            | some x => exact ⟨x, rfl⟩
          have ha : aheadP ok y W q = (decide (x.1 < y.1) && decide (y.1 < q.1)) := by unfold aheadP; rw [hx, hc]; rfl
          refine ⟨eok1, br_t (by rw [eok2, hc]) (br_t (decide_eq_true (by omega)) (hlast x hx (br_of (fun h1 => hld (hK2 _ _ ⟨rfl, ?_⟩)) fun h1 => hK2 _ _ ⟨rfl, ?_⟩)))⟩
          · rw [ha, hy1, h1, Bool.true_and]
          · rw [ha, hy1, h1, Bool.false_and]
        refine ⟨eok1, br_of (fun hc => ?_) (fun hc => ⟨eok1, br_f (by rw [eok2]; rw [eok2] at hc; exact hc) (hf (by rw [eok2] at hc; exact hc))⟩)⟩
        have hc : ok = true := by rw [eok2] at hc; exact hc
        refine br_of (fun h0 => hld (br_of (fun h1 => hK2 _ _ ⟨rfl, ?_⟩) fun h1 => ?_)) (fun h0 => ?_)
        · have hnil : W = [] := List.eq_nil_of_length_eq_zero (by have : (W.length : Int) = 0 := by simpa using h0
                                                                  omega)
          unfold aheadP
          rw [hnil, hc, hy1]
          exact h1.symm
        · have h0 : (W.length : Int) = 0 := by simpa using h0
          have hnil : W = [] := List.eq_nil_of_length_eq_zero (by omega)
          refine ⟨eok1, br_t (by rw [eok2, hc]) (br_f (decide_eq_false (show ¬ (W.length : Int) > 0 by omega)) (hK2 _ _ ⟨rfl, ?_⟩))⟩
          unfold aheadP
          rw [hnil, hc, hy1]
          exact h1.symm
        · have h0 : ¬ (W.length : Int) = 0 := by simpa using h0
          exact full hc (by omega)
    · rintro ⟨sa, sn, sc⟩ h14 ⟨hsn, g14⟩ _
      have hsn : sn = W'.length := hsn
      have g14 : Grow h13 (blkOf oa) h14 TR 5 sa W'.length sc (pgs W') := g14
      subst hsn
      have hWl' : W'.length ≤ 801 := by
        rw [← hW']
        split
        · simp; omega
        · omega
      have b14 : Blk h14 h12.size #[.int .u32 q.1, .int .u8 q.2.1, .int .u32 q.2.2.1, .int .u32 q.2.2.2.1, .int .u32 q.2.2.2.2] TR := (g14.upd.same h12.size hb13.lt (fun e => by have := holt h12.size e.symm; omega)).trans hb13
      refine ldAgg_blk (cs := [.int .u32, .int .u8, .int .u32, .int .u32, .int .u32]) ((q.1, q.2.1, q.2.2.1, q.2.2.2.1, q.2.2.2.2) : PgC) b14 ⟨rfl, rfl, rfl, rfl, rfl, trivial⟩ (grow_pg q g14 (by omega) fun a' c' h15 g15 => ?_)
      have g16 := Grow.trans (g12.new n13) g15
      rw [← hstep] at g16 ⊢
      have ez : IntKind.wrap .i64 ((i : Int) + 1) = ((i + 1 : Nat) : Int) := (by first | (rw [wr64 (by omega) (by omega)]; omega) | (simp only [IntKind.wrap_i64]; omega))
      simp only [ez]
      exact ⟨⟨i + 1, rfl, hiL, rfl, g16⟩, (by first | omega | (dsimp only; omega) | (simp only []; omega))⟩
  · have : i = L.length := by
      have hlt : ¬ (i : Int) < (L.length : Int) := of_decide_eq_false hlt
      omega
    subst this
    have gL : Grow h11 (some h9.size) h12 TR 5 oa (wantP ok y L).length oc (pgs (wantP ok y L)) := by
      have := g12
      rw [List.take_length] at this; exact this
    clear g12
    rw [List.take_length] at prW hWl ⊢
    have hend := wantP_end ok y L
    generalize hW : wantP ok y L = W at *
    generalize hW' : (if endP ok y W = true then W ++ [y] else W) = W' at hend
    refine cut_q (ts := [.sc .slice]) (fun (s : Sc) h' => s.2.1 = W'.length ∧ Grow h11 (some h9.size) h' TR 5 s.1 W'.length s.2.2 (pgs W')) ?_ ?_
    rotate_left
    · intro K hK
      refine cut_q (ts := [.sc .bool]) (fun (s : Bool) h' => h' = h12 ∧ s = endP ok y W) ?_ ?_
      · rintro s h' ⟨hh, hs⟩ _
        subst h'
        have hs : s = endP ok y W := hs
        refine br_of (fun hc => ?_) (fun hc => hK _ _ ?_)
        · have hc : endP ok y W = true := hs.symm.trans hc
          rw [if_pos hc] at hW'
          subst W'
          refine ldAgg_add (o := 0) X.hd (b29.new n912) ⟨rfl, rfl, rfl, rfl, trivial⟩ ?_
          subst hy
          exact grow_pg (l := W) (ad, X.hd) gL (by omega) fun a' c' h' g' => hK (a', _, c') h' ⟨rfl, g'⟩
        · have hc : endP ok y W = false := hs.symm.trans hc
          rw [if_neg (by rw [hc]; simp)] at hW'
          subst W'
          exact ⟨rfl, gL⟩
      · intro K2 hK2
        refine ⟨eok1, br_of (fun hc => ?_) (fun hc => hK2 _ _ ⟨rfl, ?_⟩)⟩
        · have hc : ok = true := by rw [eok2] at hc; exact hc
          refine br_of (fun h0 => hK2 _ _ ⟨rfl, ?_⟩) (fun h0 => ?_)
          · have h0 : (W.length : Int) = 0 := by simpa using h0
            have hnil : W = [] := List.eq_nil_of_length_eq_zero (by omega)
            unfold endP
            rw [hnil, hc]; rfl
          · have h0 : ¬ (W.length : Int) = 0 := by simpa using h0
            obtain ⟨x, hx⟩ : ∃ x, W.getLast? = some x := by
              cases hg : W.getLast? with
              | none => rw [List.getLast?_eq_none_iff] at hg; subst hg; simp at h0
              | some x => exact ⟨x, rfl⟩
            refine last_at prW (by omega) rfl hx (hK2 _ _ ⟨rfl, ?_⟩)
            unfold endP
            rw [hx, hc, hy1]; rfl
        · have hc : ok = false := by rw [eok2] at hc; exact hc
          rw [hc]; rfl
    · rintro ⟨sa, sn, sc⟩ h13 ⟨hsn, g13⟩ _
      have hsn : sn = W'.length := hsn
      have g13 : Grow h11 (some h9.size) h13 TR 5 sa W'.length sc (pgs W') := g13
      subst hsn
      have n913 : New h9 h13 := g13.upd.grow n911 hr0
      refine ldAgg_blk ((zn : Int), (pn : Int), gb) (b19.new n913) ⟨rfl, rfl, rfl, trivial⟩ (call_of (scan_ok gk9 gb h13 (r9.new n913)) ?_)
      rintro v h14 ⟨⟨a14, c14, rfl, ow14⟩, n14⟩
      have hlen9 := scan_len gk9
      refine ⟨(a14, _, c14), rfl, call_of (pages_ok h14 a14 c14 _ (by omega) (PR.own ow14)) ?_⟩
      rintro v h15 ⟨a15, c15, rfl, row15, n15⟩
      refine ⟨(a15, _, c15), rfl, call_of (rsame_ok h15 a15 sa c15 sc _ _ _ W' rfl rfl (by omega) (PR.row row15) (((PR.row g13.row).new n14).new n15)) ?_⟩
      rintro v h' ⟨rfl, hh⟩; subst h'
      rw [decide_eq_true (show scanM (zn : Int) (pn : Int) E = W' by rw [hscan, hend, hy])]
      exact ⟨true, rfl, rfl, ((n09.trans n913).trans n14).trans n15⟩
end Go.Proofs.YtgohecjnjadnpaaDoor.MedX
