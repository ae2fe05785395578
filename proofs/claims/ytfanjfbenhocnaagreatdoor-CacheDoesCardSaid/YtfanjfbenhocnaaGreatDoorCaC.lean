/-
  The contracts of cache.Clean and cache.New.
-/
import Derived.Test.YtfanjfbenhocnaaGreatDoorCaE
namespace Go.Proofs.YtfanjfbenhocnaaGreatDoor.Ca
open Go.Pl Go.Pl.Lru Go.Pl.Ix Go.Proofs.YtfanjfbenhocnaaGreatDoor.W Go.Proofs.YtfanjfbenhocnaaGreatDoor.Lru Go.Proofs.YtfanjfbenhocnaaGreatDoor.IxS
def cleanP (c : Cm) (tb : Int) (pre : List Nat) : Cm := ⟨c.B, fun n => if n ∈ pre then (c.E n).map fun e => (e.1, e.2 && !decide (((n / 4 : Nat) : Int) = tb)) else c.E n⟩
theorem cleanP_nil (c : Cm) (tb : Int) : cleanP c tb [] = c := by
  unfold cleanP
  have : (fun n => if n ∈ ([] : List Nat) then (c.E n).map fun e => (e.1, e.2 && !decide (((n / 4 : Nat) : Int) = tb)) else c.E n) = c.E := by funext n; simp
  rw [this]
theorem cleanP_all (c : Cm) (tb : Int) (hb : ∀ n, (c.E n).isSome = true → n ∈ blocks c) : cleanP c tb (blocks c) = cleanC c tb := by
  unfold cleanP cleanC
  congr 1
  funext n
  by_cases h : n ∈ blocks c
  · rw [if_pos h]
  · rw [if_neg h]
    cases hE : c.E n with
    | none => rfl
    | some e => exact (h (hb n (by rw [hE]; rfl))).elim
theorem cleanP_hit {c : Cm} {tb : Int} {pre : List Nat} {x : Nat} {e : Int × Bool} (hx : x ∉ pre) (he : c.E x = some e) (hd : dirt tb x e = true) : cleanP c tb (pre ++ [x]) = ⟨c.B, setE (cleanP c tb pre).E x (some (e.1, false))⟩ := by
  unfold cleanP
  congr 1
  funext n
  unfold setE
  unfold dirt at hd
  rw [Bool.and_eq_true] at hd
  by_cases h : n = x
  · subst h
    rw [if_pos (by simp), if_pos rfl, he, Option.map_some, hd.2]; simp
  · rw [if_neg h]
    by_cases h2 : n ∈ pre
    · rw [if_pos (by simp [h2])]; show _ = if n ∈ pre then _ else _; rw [if_pos h2]
    · rw [if_neg (by simp [h2, h])]; show _ = if n ∈ pre then _ else _; rw [if_neg h2]
theorem cleanP_miss {c : Cm} {tb : Int} {pre : List Nat} {x : Nat} {e : Int × Bool} (hx : x ∉ pre) (he : c.E x = some e) (hd : dirt tb x e = false) : cleanP c tb (pre ++ [x]) = cleanP c tb pre := by
  unfold cleanP
  congr 1
  funext n
  unfold dirt at hd
  by_cases h : n = x
  · subst h
    rw [if_pos (by simp), if_neg hx, he, Option.map_some]
    congr 1
    obtain ⟨a, b⟩ := e
    show (a, _) = (a, b)
    congr 1
    cases b with
    | false => rfl
    | true =>
      have : decide (((n / 4 : Nat) : Int) = tb) = false := hd
      show (true && !decide (((n / 4 : Nat) : Int) = tb)) = true
      rw [this]; rfl
  · by_cases h2 : n ∈ pre
    · rw [if_pos (by simp [h2]), if_pos h2]
    · rw [if_neg (by simp [h2, h]), if_neg h2]
section
variable {k S p rb ib eb fc : Nat} {t t' : Tags} {h h' : Heap} {fa : Option Addr} {c : Cm} {r : Nat → Nat} {M : Int → Option Int} {fr : List Nat} {es : Array Value} {T TE : TypeId}
/-- Going through all entries, and cleaning some. -/
structure JC (c : Cm) (tb : Int) (S : Nat) (r : Nat → Nat) (M : Int → Option Int) (fr : List Nat) (B eb : Nat) (TE : TypeId) (hq : Heap) (l : Nat) (pre : List Nat) (h' : Heap) : Prop where
  sizes : hq.size ≤ h'.size
  same : ∀ b, b < hq.size → b ≠ B → b ≠ eb → b ≠ l → h'[b]? = hq[b]?
  cnt : Blk h' B #[.int .i64 (((pre.map (ev c)).filter fun (z : En) => dirt tb z.1 z.2).length : Nat)] TI
  ent : ∃ es, Blk h' eb es TE ∧ CD S (cleanP c tb pre) r M fr es
  lB : B < l
  le : eb < B
  lq : l < hq.size
theorem JC.only {tb : Int} {B l : Nat} {hq h1 h2 : Heap} {pre : List Nat} (j : JC c tb S r M fr B eb TE hq l pre h1) (o : Only l h1 h2) : JC c tb S r M fr B eb TE hq l pre h2 := by
  obtain ⟨es, he, d⟩ := j.ent
  have h1 := j.lB
  have h2 := j.le
  exact ⟨by rw [o.size]; exact j.sizes, fun b hb h1 h2 h3 => (o.same b h3).trans (j.same b hb h1 h2 h3), j.cnt.only o (by omega), ⟨es, he.only o (by omega), d⟩, h1, h2, j.lq⟩
theorem JC.new {tb : Int} {B l : Nat} {hq h1 h2 : Heap} {pre : List Nat} (j : JC c tb S r M fr B eb TE hq l pre h1) (o : New h1 h2) : JC c tb S r M fr B eb TE hq l pre h2 := by
  obtain ⟨es, he, d⟩ := j.ent
  have hs := j.sizes
  exact ⟨Nat.le_trans hs o.size, fun b hb h1 h2 h3 => (o.same b (by omega)).trans (j.same b hb h1 h2 h3), j.cnt.new o, ⟨es, he.new o, d⟩, j.lB, j.le, j.lq⟩
theorem CH.jc {tb : Int} {B l : Nat} {hq h1 : Heap} {pre : List Nat} (a : CH k t h p rb ib eb fa fc S c r M fr es T TE) (n : New h hq) (j : JC c tb S r M fr B eb TE hq l pre h1) (hB : h.size ≤ B) : ∃ es', CH k t h1 p rb ib eb fa fc S (cleanP c tb pre) r M fr es' T TE ∧ CD S (cleanP c tb pre) r M fr es' := by
  obtain ⟨es', he, d⟩ := j.ent
  have hl := j.lB
  have hs : ∀ b, b < h.size → b ≠ eb → h1[b]? = h[b]? := fun b hb hne => (j.same b (Nat.lt_of_lt_of_le hb n.size) (by omega) hne (by omega)).trans (n.same b hb)
  have hrb := a.rk.lt
  have hib := a.ix.lt
  have hsz := Nat.le_trans n.size j.sizes
  exact ⟨es', ⟨a.own, (hs p a.blk.lt (tag_ne a.tp a.te (by decide))).trans a.blk, rk_same a.rk (hs rb hrb (tag_ne a.tr a.te (by decide))) (Same2.refl _), ix_same a.ix (hs ib hib (tag_ne a.ti a.te (by decide))), he, a.frow.keep fun g _ _ hg e => hs g hg.lt (tag_ne (a.tf g e).2 a.te (by decide)), a.tp, a.tr, a.ti, a.te, fun g hg => ⟨Nat.lt_of_lt_of_le (a.tf g hg).1 hsz, (a.tf g hg).2⟩⟩, d⟩
theorem CH.tk {n : Nat} (a : CH k t h p rb ib eb fa fc S c r M fr es T TE) (x : Taken n h h') : CH k t h' p rb ib eb fa fc S c r M fr es T TE := by
  obtain ⟨_, _, _, _, ⟨arr, T1, hb1, _⟩, _⟩ := id a.rk
  obtain ⟨_, ⟨arr2, T2, hb2, _⟩, _⟩ := id a.ix
  exact ⟨a.own, (Tk_blk x a.blk).trans a.blk, rk_same a.rk (Tk_blk x hb1) (Same2.refl _), ix_same a.ix (Tk_blk x hb2), (Tk_blk x a.eblk).trans a.eblk, Tk_own x a.frow, a.tp, a.tr, a.ti, a.te, fun g hg => ⟨by rw [x.size]; exact (a.tf g hg).1, (a.tf g hg).2⟩⟩
theorem clean_ok (tb : Int) (a : CRep k t h p S c) : CallsH Tryz.prog 23 [ptr p, .int .i64 tb] h fun v h' => v = .int .i64 ((dirtyC c tb).length : Nat) ∧ Acted k t h p S (cleanC c tb) h' := by
  obtain ⟨rb, ib, eb, fa, fc, r, M, fr, es, T, TE, a, d⟩ := a
  refine fun_ok hm' Tryz.func23 (by kernel_rfl) (F23_eq _ _ _ h) ?_
  unfold F23
  rw [zN]
  refine new_of fun h0 b0 n0 s0 => new_st fun h1 b1 n1 s1 => call_of (each_ok p h1) ?_
  rintro v h2 ⟨rfl, b2, n2, s2⟩
  refine ⟨_, rfl, ?_⟩
  have hbl := d.bl
  have a0 := a.new n0
  have heb : eb < h0.size := a0.eblk.lt
  have see : ∀ {hq : Heap} {l : Nat} {pre : List Nat} {h3 : Heap}, JC c tb S r M fr h0.size eb TE hq l pre h3 → New h2 hq → h2.size ≤ l → Sees h3 h1.size p ib eb S M (que c.B).length := fun {hq l pre h3} j nq hl => by
    obtain ⟨es', a', d'⟩ := CH.jc a0 ((n1.trans n2).trans nq) j (Nat.le_refl _)
    exact a'.sees (TC := T59) ((j.same h1.size (by have := nq.size; omega) (by omega) (by omega) (by omega)).trans (b2.new nq))
  refine range_each (p := p) (ib := ib) (eb := eb) (S := S) (n := (que c.B).length) (M := M) (bs := blocks c) (sl := r) (cap := h1.size)
    (fun hq l pre h3 => JC c tb S r M fr h0.size eb TE hq l pre h3 ∧ New h2 hq ∧ h2.size ≤ l)
    (fun hq l nq h3 h4 => ⟨⟨Nat.le_refl _, fun _ _ _ _ _ => rfl, (b1.new n2).new nq, ⟨es, ((a0.eblk.new n1).new n2).new nq, by rw [cleanP_nil]; exact d⟩, by omega, heb, h4⟩, nq, h3⟩)
    (fun hq l pre h3 h4 j o => ⟨j.1.only o, j.2⟩) (fun hq l pre h3 h4 j o => ⟨j.1.new o, j.2⟩)
    (fun hq l pre h3 j => ⟨j.1.sizes, fun b h4 h5 h6 => j.1.same b h5 (by omega) (by omega) h6⟩)
    (fun hq l pre h3 j => see j.1 j.2.1 j.2.2) d.bs d.keys hbl ?_ ?_
  · rintro hq l o Y pre x post h3 hbs ⟨j, nq, hl⟩ hend
    have hx : x ∈ blocks c := by rw [hbs]; simp
    have hxp : x ∉ pre := fun hh => by
      have := blocks_nd c
      rw [hbs, List.nodup_append] at this
      exact this.2.2 x hh x (by simp) rfl
    have h64 := d.inv.lt x ((mem_blocks d.inv x).1 hx)
    have hrx := d.lt x ((mem_blocks d.inv x).1 hx)
    have hpl : pre.length ≤ 64 := by rw [hbs] at hbl; simp at hbl; omega
    have hfl := fl_le (c := c) pre tb
    have hev := ev_dirt (c := c) (x := x) (tb := tb) pre
    have hq2 := nq.size
    have hb0 : Blk h3 h.size #[.int .i64 tb] TI := (j.same h.size (by omega) (by omega) (by have := a.eblk.lt; omega) (by omega)).trans (((b0.new n1).new n2).new nq)
    obtain ⟨es', he', d'⟩ := j.ent
    have hE := d.E_ev hx
    have hE' : (cleanP c tb pre).E x = some (ev c x).2 := by
      show (if x ∈ pre then _ else _) = _
      rw [if_neg hxp]; exact hE
    have he3 : ∀ j, j < 3 → cellH h3 ⟨eb, r x * 3 + j, none⟩ = (entV x (ev c x).2)[j]? := fun j hj => by rw [cellH_blk he']; exact d'.ent x _ hE' j hj
    refine ptr_of (ld_of (c := .int .i64) (x : Int) (by rw [add_mk]; exact he3 0 (by decide)) (call_of (table_ok x h3 h64) ?_))
    rintro v h' ⟨rfl, hh⟩; subst h'
    refine ⟨(((x / 4 : Nat) : Int), ((x % 4 : Nat) : Int)), rfl, cut_q (ts := [.sc .bool]) (fun (s : Bool) h' => h' = h3 ∧ s = dirt tb x (ev c x).2) ?_ ?_⟩
    rotate_left
    · intro K hK
      refine ptr_of (ld_of (c := .bool) (ev c x).2.2 (by rw [add_mk]; exact he3 2 (by decide)) (br_of (fun hd => ld_of (c := .int .i64) tb (by rw [cellH_blk hb0]; rfl) (hK _ _ ⟨rfl, ?_⟩)) fun hd => hK _ _ ⟨rfl, ?_⟩))
      · unfold dirt
        rw [hd, Bool.true_and]; rfl
      · unfold dirt
        rw [hd, Bool.false_and]
    rintro s h' ⟨hh, hs⟩ _; subst h'
    have hs : s = dirt tb x (ev c x).2 := hs
    subst hs
    refine br_of (fun hd => ?_) (fun hd => hend h3 ⟨⟨j.sizes, j.same, by rw [hev, if_neg (by rw [hd]; simp), List.append_nil]; exact j.cnt, ⟨es', he', by rw [cleanP_miss hxp hE hd]; exact d'⟩, j.lB, j.le, j.lq⟩, nq, hl⟩)
    rw [if_pos hd] at hev
    have hsz := d'.size
    have hlB := j.lB
    refine ptr_of (st_blk (o := r x * 3 + 2) he' (by omega) fun h4 b4 o4 => ?_)
    have c4 := j.cnt.only o4 (show h0.size ≠ eb by omega)
    refine ld_of (c := .int .i64) (((((pre.map (ev c)).filter fun (z : En) => dirt tb z.1 z.2).length : Nat) : Int)) (by rw [cellH_blk c4]; rfl) (st_blk c4 (by simp) fun h5 b5 o5 => hend h5 ⟨⟨?_, ?_, ?_, ⟨_, b4.only o5 (show eb ≠ h0.size by omega), ?_⟩, hlB, j.le, j.lq⟩, nq, hl⟩)
    · rw [o5.size, o4.size]; exact j.sizes
    · exact fun b hb h1 h2 h3 => ((o5.same b h1).trans (o4.same b h2)).trans (j.same b hb h1 h2 h3)
    · rw [hev, List.length_append]
      have e : IntKind.wrap .i64 ((((pre.map (ev c)).filter fun (z : En) => dirt tb z.1 z.2).length : Int) + 1) = ((((pre.map (ev c)).filter fun (z : En) => dirt tb z.1 z.2).length + [ev c x].length : Nat) : Int) := by
        rw [wr64 (by omega) (by omega)]; rfl
      rw [← e]; exact b5
    · rw [cleanP_hit hxp hE hd]
      refine d'.set ((mem_blocks d.inv x).1 hx) ((ev c x).2.1, false) _ (by simp) (fun j hj => ?_) fun i hi => ?_
      · have hj' : j = 0 ∨ j = 1 ∨ j = 2 := by omega
        rcases hj' with rfl | rfl | rfl
        · rw [Array.getElem?_setIfInBounds_ne (by omega), d'.ent x _ hE' 0 (by decide)]; rfl
        · rw [Array.getElem?_setIfInBounds_ne (by omega), d'.ent x _ hE' 1 (by decide)]; rfl
        · rw [Array.getElem?_setIfInBounds_self_of_lt (by omega)]; rfl
      · rw [Array.getElem?_setIfInBounds_ne (by omega)]
  · intro hq l o h3 hE
    refine .inl (hE _ fun h4 ⟨j, nq, hl⟩ => ?_)
    refine ld_of (c := .int .i64) (((((blocks c).map (ev c)).filter fun (z : En) => dirt tb z.1 z.2).length : Nat) : Int) (by rw [cellH_blk j.cnt]; rfl) ?_
    intro h5 t5
    obtain ⟨es', a', d'⟩ := CH.jc a ((((n0.trans n1).trans n2)).trans nq) j (by omega)
    have eC : cleanP c tb (blocks c) = cleanC c tb := cleanP_all c tb fun n hn => (mem_blocks d.inv n).2 ((d.inv.mem n).2 hn)
    rw [eC] at a' d'
    have a5 := a'.tk t5
    have hq2 := nq.size
    have hs := j.sizes
    refine ⟨rfl, t, ⟨rb, ib, eb, fa, fc, r, M, fr, es', T, TE, a5, d'⟩, ⟨by rw [t5.size]; omega, fun _ _ => rfl, fun b hb hk => ?_⟩⟩
    have hne : b ≠ eb := fun e => hk (by rw [e, a.te])
    rw [Tk_low t5 hb, j.same b (by omega) (by omega) hne (by omega), nq.same b (by omega), n2.same b (by omega), n1.same b (by omega), n0.same b hb]
end
abbrev bare : Cm := ⟨fun _ => [], fun _ => none⟩
theorem mk_any {P : Program} {e : TypeId} {n m : Nat} (hs : sizeN P e = m) (hb : bytesN P e * n ≤ 2 ^ 48) (hn : n ≤ 9223372036854775807) {F : Option Addr → Nat → Nat → Heap → Prop} {h : Heap}
    (hF : ∀ h' arr, arr.size = n * m → Blk h' h.size arr e → New h h' → h'.size = h.size + 1 → F (some ⟨h.size, 0, none⟩) n n h') : mkW P e (n : Int) (n : Int) F h := by
  refine ⟨⟨by omega, by omega, by exact_mod_cast hb, by omega⟩, ?_⟩
  simp only [Int.toNat_natCast]
  exact hF _ _ (by rw [hs]; simp [zerosOf]) (Blk.push h _ _) (New.push h _) (by simp)
theorem sizeE : sizeN Tryz.prog TEn = 3 := by kernel_rfl
theorem bytesE : bytesN Tryz.prog TEn = 16 := by kernel_rfl
theorem new_no (x : Int) (h : Heap) (hx : x < 1 ∨ 64 < x) : CallsH Tryz.prog 5 [.int .i64 x] h fun v h' => v = .tuple #[.pointer none, .iface 30 (.int .i64 1)] ∧ h' = h := by
  refine fun_ok hm' Tryz.func5 (by kernel_rfl) (F5_eq _ _ h) ?_
  unfold F5
  refine call_of (Lru.new_no x h hx) ?_
  rintro v h' ⟨rfl, hh⟩; subst h'
  exact ⟨(none, .iface 30 (.int .i64 1)), rfl, .inr ⟨_, _, rfl⟩, br_t rfl ⟨rfl, rfl⟩⟩
def frN (S i : Nat) : List Nat := (List.range i).map fun j => S - 1 - j
theorem frN_succ (S i : Nat) : frN S (i + 1) = frN S i ++ [S - 1 - i] := by unfold frN; rw [List.range_succ, List.map_append]; rfl
theorem frN_len (S i : Nat) : (frN S i).length = i := by simp [frN]
theorem new_ok (S : Nat) (k : Nat) (t : Tags) (h : Heap) (hk : k ≠ 0) (h1 : 1 ≤ S) (h2 : S ≤ 64) : CallsH Tryz.prog 5 [.int .i64 S] h fun v h' => ∃ p t', v = .tuple #[ptr p, .nilIface] ∧ h.size ≤ p ∧ CRep k t' h' p S bare ∧ Fr (fun _ => True) t h t' h' := by
  refine fun_ok hm' Tryz.func5 (by kernel_rfl) (F5_eq _ _ h) ?_
  unfold F5
  refine call_of (Lru.new_ok S h h1 h2) ?_
  rintro v h3 ⟨rfl, x3, n3⟩
  have hl3 := x3.lt
  refine ⟨(some ⟨h.size, 0, none⟩, .nilIface), rfl, .inl rfl, br_f rfl (call_of (Ix.new_ok S h3 (by omega) (by omega)) ?_)⟩
  rintro v h4 ⟨rfl, x4, n4⟩
  have hl4 := x4.lt
  refine ⟨(some ⟨h3.size, 0, none⟩, .nilIface), rfl, .inl rfl, br_f rfl (mk_any (m := 3) sizeE (by rw [bytesE]; omega) (by omega) fun h5 arr s5 b5 n5 z5 => new_of fun h6 b6 n6 z6 => ?_)⟩
  refine ⟨fun (s : Int) h' => ∃ (i : Nat) (fa : Option Addr) (fc : Nat), s = i ∧ i ≤ S ∧ h6.size ≤ h'.size ∧ (∀ b, b < h6.size → b ≠ h5.size → h'[b]? = h6[b]?) ∧ Blk h' h5.size #[ptr h.size, ptr h3.size, .slice (some ⟨h4.size, 0, none⟩) S S, .slice fa (frN S i).length fc] 47 ∧ OwnH h' h6.size TI 1 fa (frN S i).length fc (nV (frN S i)),
    fun (s : Int) _ => (S - s).toNat, ⟨0, none, 0, rfl, Nat.zero_le _, Nat.le_refl _, fun _ _ _ => rfl, b6, OwnH.nil _ _ _ _⟩, ?_⟩
  rintro s j h7 ⟨i, fa, fc, rfl, hi, hs, same, b7, ow⟩
  have hfl := frN_len S i
  refine br_of (fun hlt => ?_) (fun hlt => ?_)
  · have hlt : (i : Int) < (S : Int) := of_decide_eq_true hlt
    have ew : IntKind.wrap .i64 ((IntKind.wrap .i64 ((S : Int) - 1)) - i) = ((S - 1 - i : Nat) : Int) := by
      rw [wr64 (n := (S : Int) - 1) (by omega) (by omega), wr64 (by omega) (by omega)]; omega
    rw [ew]
    have ez : IntKind.wrap .i64 ((i : Int) + 1) = ((i + 1 : Nat) : Int) := (by first | (rw [wr64 (by omega) (by omega)]; omega) | (simp only [IntKind.wrap_i64]; omega))
    rw [ez, add_mk]
    refine ld_of (c := .slice) (fa, (frN S i).length, fc) (by rw [cellH_blk b7]; rfl) (int_push ow (by omega) hs fun a' c' h8 o8 u8 => ?_)
    have hga : ∀ g, blkOf fa = some g → h6.size ≤ g := fun g hg => by
      rcases ow.row.2 with ⟨rfl, _⟩ | ⟨g', cur, rfl, hg', _⟩
      · cases hg
      · injection hg with hg; change g' = g at hg; omega
    have b8 := (u8.same h5.size b7.lt (fun e => by have := hga _ e.symm; omega)).trans b7
    refine st_blk b8 (by simp) fun h9 b9 o9 => ?_
    rw [← frN_succ] at b9 o8
    refine ⟨⟨i + 1, a', c', rfl, by omega, by rw [o9.size]; have := u8.size; omega, fun b hb hne => ?_, b9, o8.keep fun g _ hg _ _ => o9.same g (by omega)⟩, (by first | omega | (dsimp only; omega) | (simp only []; omega))⟩
    rw [o9.same b hne, u8.same b (by omega) (fun e => by have := hga b e.symm; omega), same b hb hne]
  · have : i = S := by
      have hlt : ¬ (i : Int) < (S : Int) := of_decide_eq_false hlt
      omega
    subst this
    have hs3 := n3.size
    have hs4 := n4.size
    have hs5 := n5.size
    have hs6 := n6.size
    let t' : Tags := fun b => if b < h.size then t b else if b = h.size then (k, 1) else if b = h3.size then (k, 2) else if b = h4.size then (k, 3) else if b = h5.size then (k, 0) else (k, 4)
    have sm : ∀ b, b < h5.size → h7[b]? = h6[b]? := fun b hb => same b (by omega) (by omega)
    have x6 := ((x3.new n4).new n5).new n6
    have i6 := (x4.new n5).new n6
    refine ⟨h5.size, t', rfl, by omega, ⟨h.size, h3.size, h4.size, fa, fc, fun _ => 0, fun _ => none, frN i i, arr, _, _, ⟨hk, b7, rk_same x6 (sm _ (by omega)) (fun q hq => rfl), ix_same i6 (sm _ (by omega)), (sm _ (by omega)).trans (b5.new n6), ow.low (Nat.zero_le _), ?_, ?_, ?_, ?_, fun g hg => ⟨?_, ?_⟩⟩, ⟨⟨List.nodup_nil, fun n => by simp [que], fun n hn => by simp [que] at hn, by simp [que], h2, h1⟩, fun m hm => by simp [que] at hm, fun x => (if_neg fun hh => ?_).symm, s5, (fun n e he => by cases he), fun s => ?_, ?_, by rw [hfl]; simp [que], fun n hn => by simp [que] at hn⟩⟩, ⟨by omega, fun b hb => if_pos hb, fun b hb _ => ?_⟩⟩
    · show t' h5.size = (k, 0)
      show (if h5.size < h.size then t h5.size else if h5.size = h.size then (k, 1) else if h5.size = h3.size then (k, 2) else if h5.size = h4.size then (k, 3) else if h5.size = h5.size then (k, 0) else (k, 4)) = (k, 0)
      rw [if_neg (by omega), if_neg (by omega), if_neg (by omega), if_neg (by omega), if_pos rfl]
    · show t' h.size = (k, 1)
      show (if h.size < h.size then t h.size else if h.size = h.size then (k, 1) else if h.size = h3.size then (k, 2) else if h.size = h4.size then (k, 3) else if h.size = h5.size then (k, 0) else (k, 4)) = (k, 1)
      rw [if_neg (by omega), if_pos rfl]
    · show t' h3.size = (k, 2)
      show (if h3.size < h.size then t h3.size else if h3.size = h.size then (k, 1) else if h3.size = h3.size then (k, 2) else if h3.size = h4.size then (k, 3) else if h3.size = h5.size then (k, 0) else (k, 4)) = (k, 2)
      rw [if_neg (by omega), if_neg (by omega), if_pos rfl]
    · show t' h4.size = (k, 3)
      show (if h4.size < h.size then t h4.size else if h4.size = h.size then (k, 1) else if h4.size = h3.size then (k, 2) else if h4.size = h4.size then (k, 3) else if h4.size = h5.size then (k, 0) else (k, 4)) = (k, 3)
      rw [if_neg (by omega), if_neg (by omega), if_neg (by omega), if_pos rfl]
    · rcases ow.row.2 with ⟨rfl, _⟩ | ⟨g', cur, rfl, hg', hb', _⟩
      · cases hg
      · injection hg with hg; change g' = g at hg; subst hg; exact hb'.lt
    · have hg6 : h6.size ≤ g := by
        rcases ow.row.2 with ⟨rfl, _⟩ | ⟨g', cur, rfl, hg', hb', _⟩
        · cases hg
        · injection hg with hg; change g' = g at hg; subst hg; exact hg'
      show t' g = (k, 4)
      simp only [t']
      rw [if_neg (by omega), if_neg (by omega), if_neg (by omega), if_neg (by omega), if_neg (by omega)]
    · have := hh.2
      simp [que] at this
    · show s ∈ frN i i ↔ _
      unfold frN
      rw [List.mem_map]
      constructor
      · rintro ⟨j, hj, rfl⟩
        rw [List.mem_range] at hj
        exact ⟨by omega, by simp [que]⟩
      · rintro ⟨hlt, _⟩
        exact ⟨i - 1 - s, List.mem_range.2 (by omega), by omega⟩
    · show (frN i i).Nodup
      unfold frN
      rw [List.nodup_iff_pairwise_ne, List.pairwise_map]
      refine List.Pairwise.imp_of_mem (fun {a b} ha hb hab => ?_) List.pairwise_lt_range
      rw [List.mem_range] at ha hb
      omega
    · rw [sm b (by omega), n6.same b (by omega), n5.same b (by omega), n4.same b (by omega), n3.same b hb]
end Go.Proofs.YtfanjfbenhocnaaGreatDoor.Ca
