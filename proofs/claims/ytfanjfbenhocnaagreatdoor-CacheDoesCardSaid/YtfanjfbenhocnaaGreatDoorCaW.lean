/-
  How a cache lies in the heap; the contracts of package cache, but those that go through all entries.
-/
import Derived.Test.YtfanjfbenhocnaaGreatDoorCaP
import Derived.Test.YtfanjfbenhocnaaGreatDoorWCa
import Derived.Test.YtfanjfbenhocnaaGreatDoorIxS
import Derived.Test.YtfanjfbenhocnaaGreatDoorSep
namespace Go.Proofs.YtfanjfbenhocnaaGreatDoor.Ca
open Go.Pl Go.Pl.Lru Go.Pl.Ix Go.Proofs.YtfanjfbenhocnaaGreatDoor.W Go.Proofs.YtfanjfbenhocnaaGreatDoor.Lru
abbrev TI : TypeId := 3
abbrev ptr (b : Nat) : Value := .pointer (some ⟨b, 0, none⟩)
abbrev nV (l : List Nat) : List Value := l.map fun (x : Nat) => Value.int .i64 x
theorem hm' : Tryz.prog.follows .mixedOrders = true := by kernel_rfl
theorem apF : apB Tryz.prog 45 TI 1 8 = true := by kernel_rfl
def entV (n : Nat) (e : Int × Bool) : List Value := [.int .i64 n, .int .u32 e.1, .bool e.2]
/-- The plain side: slots and blocks. -/
structure CD (S : Nat) (c : Cm) (r : Nat → Nat) (M : Int → Option Int) (fr : List Nat) (es : Array Value) : Prop where
  inv : Inv S c
  inj : InjOn r c.B
  key : ∀ x : Int, M x = if 0 ≤ x ∧ x.toNat ∈ que c.B then some (r x.toNat : Int) else none
  size : es.size = S * 3
  ent : ∀ n e, c.E n = some e → ∀ j, j < 3 → es[r n * 3 + j]? = (entV n e)[j]?
  free : ∀ s, s ∈ fr ↔ s < S ∧ s ∉ (que c.B).map r
  fnd : fr.Nodup
  flen : fr.length + (que c.B).length = S
  lt : ∀ n, n ∈ que c.B → r n < S
structure CH (k : Nat) (t : Tags) (h : Heap) (p rb ib eb : Nat) (fa : Option Addr) (fc S : Nat) (c : Cm) (r : Nat → Nat) (M : Int → Option Int) (fr : List Nat) (es : Array Value) (T TE : TypeId) : Prop where
  own : k ≠ 0
  blk : Blk h p #[ptr rb, ptr ib, .slice (some ⟨eb, 0, none⟩) S S, .slice fa fr.length fc] T
  rk : RkOk h rb S (mapL r c.B)
  ix : Ix.IxOk h ib M (que c.B).length (S : Int)
  eblk : Blk h eb es TE
  frow : OwnH h 0 TI 1 fa fr.length fc (nV fr)
  tp : t p = (k, 0)
  tr : t rb = (k, 1)
  ti : t ib = (k, 2)
  te : t eb = (k, 3)
  tf : ∀ g, blkOf fa = some g → g < h.size ∧ t g = (k, 4)
def CRep (k : Nat) (t : Tags) (h : Heap) (p S : Nat) (c : Cm) : Prop := ∃ rb ib eb fa fc r M fr es T TE, CH k t h p rb ib eb fa fc S c r M fr es T TE ∧ CD S c r M fr es
theorem tag_ne {t : Tags} {a b k i j : Nat} (ha : t a = (k, i)) (hb : t b = (k, j)) (h : i ≠ j) : a ≠ b := fun e => h (by subst e; rw [ha] at hb; injection hb)
theorem rk_same {h h' : Heap} {b S : Nat} {L L' : Nat → List Nat} (x : RkOk h b S L) (e : h'[b]? = h[b]?) (s : Same2 L L') : RkOk h' b S L' := by
  obtain ⟨nx, bk, rw', m, ⟨arr, T, hb, ha⟩, ⟨h1, h2, h3, h4, h5⟩, hS, hm⟩ := x
  exact ⟨nx, bk, rw', m, ⟨arr, T, e.trans hb, ha⟩, ⟨h1, fun q hq => by rw [← s q hq]; exact h2 q hq, fun q hq => by rw [← s q hq]; exact h3 q hq, fun q hq => by rw [← s q hq]; exact h4 q hq, h5⟩, hS, fun q hq => by rw [← s q hq]; exact hm q hq⟩
theorem ix_same {h h' : Heap} {b n : Nat} {M : Int → Option Int} {room : Int} (x : Ix.IxOk h b M n room) (e : h'[b]? = h[b]?) : Ix.IxOk h' b M n room := by
  obtain ⟨p, ⟨arr, T, hb, ha⟩, r⟩ := x
  exact ⟨p, ⟨arr, T, e.trans hb, ha⟩, r⟩
section
variable {k S p rb ib eb fc : Nat} {t t' : Tags} {h h' : Heap} {fa : Option Addr} {c : Cm} {r : Nat → Nat} {M : Int → Option Int} {fr : List Nat} {es : Array Value} {T TE : TypeId}
theorem CH.fr' {Q : Nat × Nat → Prop} (a : CH k t h p rb ib eb fa fc S c r M fr es T TE) (s : Fr Q t h t' h') (hk : ∀ j, Q (k, j)) : CH k t' h' p rb ib eb fa fc S c r M fr es T TE := by
  have hrb := a.rk.lt
  have hib := a.ix.lt
  refine ⟨a.own, s.blk a.blk (by rw [a.tp]; exact hk _), rk_same a.rk (s.same _ hrb (by rw [a.tr]; exact hk _)) (Same2.refl _), ix_same a.ix (s.same _ hib (by rw [a.ti]; exact hk _)), s.blk a.eblk (by rw [a.te]; exact hk _), a.frow.keep fun g _ _ hg e => s.same g hg.lt (by rw [(a.tf g e).2]; exact hk _), ?_, ?_, ?_, ?_, fun g hg => ?_⟩
  · rw [s.tags p a.blk.lt]; exact a.tp
  · rw [s.tags rb hrb]; exact a.tr
  · rw [s.tags ib hib]; exact a.ti
  · rw [s.tags eb a.eblk.lt]; exact a.te
  · obtain ⟨h1, h2⟩ := a.tf g hg
    exact ⟨Nat.lt_of_lt_of_le h1 s.size, by rw [s.tags g h1]; exact h2⟩
theorem CH.new (a : CH k t h p rb ib eb fa fc S c r M fr es T TE) (n : New h h') : CH k t h' p rb ib eb fa fc S c r M fr es T TE := a.fr' (Q := fun _ => True) (Fr.new0 n) fun _ => trivial
theorem CRep.fr' {Q : Nat × Nat → Prop} (a : CRep k t h p S c) (s : Fr Q t h t' h') (hk : ∀ j, Q (k, j)) : CRep k t' h' p S c := by
  obtain ⟨rb, ib, eb, fa, fc, r, M, fr, es, T, TE, a, d⟩ := a
  exact ⟨rb, ib, eb, fa, fc, r, M, fr, es, T, TE, a.fr' s hk, d⟩
theorem CRep.new (a : CRep k t h p S c) (n : New h h') : CRep k t h' p S c := a.fr' (Q := fun _ => True) (Fr.new0 n) fun _ => trivial
theorem CRep.inv (a : CRep k t h p S c) : Inv S c := by obtain ⟨rb, ib, eb, fa, fc, r, M, fr, es, T, TE, a, d⟩ := a; exact d.inv
theorem CRep.lt (a : CRep k t h p S c) : p < h.size := by obtain ⟨rb, ib, eb, fa, fc, r, M, fr, es, T, TE, a, d⟩ := a; exact a.blk.lt
theorem CRep.tag (a : CRep k t h p S c) : t p = (k, 0) := by obtain ⟨rb, ib, eb, fa, fc, r, M, fr, es, T, TE, a, d⟩ := a; exact a.tp
theorem CRep.own (a : CRep k t h p S c) : k ≠ 0 := by obtain ⟨rb, ib, eb, fa, fc, r, M, fr, es, T, TE, a, d⟩ := a; exact a.own
theorem CH.c0 (a : CH k t h p rb ib eb fa fc S c r M fr es T TE) : cellH h ((⟨p, 0, none⟩ : Addr).add 0) = some (ptr rb) := by rw [add_mk, cellH_blk a.blk]; rfl
theorem CH.c1 (a : CH k t h p rb ib eb fa fc S c r M fr es T TE) : cellH h ((⟨p, 0, none⟩ : Addr).add 1) = some (ptr ib) := by rw [add_mk, cellH_blk a.blk]; rfl
theorem CH.c2 (a : CH k t h p rb ib eb fa fc S c r M fr es T TE) : cellH h ((⟨p, 0, none⟩ : Addr).add 2) = some (.slice (some ⟨eb, 0, none⟩) S S) := by rw [add_mk, cellH_blk a.blk]; rfl
theorem CH.c3 (a : CH k t h p rb ib eb fa fc S c r M fr es T TE) : cellH h ((⟨p, 0, none⟩ : Addr).add 3) = some (.slice fa fr.length fc) := by rw [add_mk, cellH_blk a.blk]; rfl
theorem CD.E_que (d : CD S c r M fr es) {n : Nat} {e : Int × Bool} (he : c.E n = some e) : n ∈ que c.B := (d.inv.mem n).2 (by rw [he]; rfl)
theorem CH.ent (a : CH k t h p rb ib eb fa fc S c r M fr es T TE) (d : CD S c r M fr es) {n : Nat} {e : Int × Bool} (he : c.E n = some e) (j : Nat) (hj : j < 3) : cellH h ⟨eb, r n * 3 + j, none⟩ = (entV n e)[j]? := by
  rw [cellH_blk a.eblk]; exact d.ent n e he j hj
/-- An entry is set. -/
theorem CD.set (d : CD S c r M fr es) {n : Nat} (hn : n ∈ que c.B) (e : Int × Bool) (es' : Array Value) (hs : es'.size = es.size) (h1 : ∀ j, j < 3 → es'[r n * 3 + j]? = (entV n e)[j]?) (h2 : ∀ i, i / 3 ≠ r n → es'[i]? = es[i]?) :
    CD S ⟨c.B, setE c.E n (some e)⟩ r M fr es' := by
  have hmem := (d.inv.mem n).1 hn
  refine ⟨⟨d.inv.nd, fun m => by rw [d.inv.mem]; show _ ↔ (setE c.E n (some e) m).isSome = true; rw [setE_some hmem], d.inv.lt, d.inv.len, d.inv.le, d.inv.pos⟩, d.inj, d.key, by rw [hs]; exact d.size, fun m e' he j hj => ?_, d.free, d.fnd, d.flen, d.lt⟩
  have he : setE c.E n (some e) m = some e' := he
  by_cases hm : m = n
  · subst hm
    rw [setE_same] at he
    rw [← Option.some.inj he]; exact h1 j hj
  · rw [setE_ne _ _ hm] at he
    have hmq := d.E_que he
    rw [h2 _ (by have : r m ≠ r n := fun e => hm (d.inj m hmq n hn e); omega)]
    exact d.ent m e' he j hj
theorem sets3 {es : Array Value} {s n : Nat} {e : Int × Bool} (hs : s * 3 + 3 ≤ es.size) : (setsA es (s * 3) (entV n e)).size = es.size ∧ (∀ j, j < 3 → (setsA es (s * 3) (entV n e))[s * 3 + j]? = (entV n e)[j]?) ∧ ∀ i, i / 3 ≠ s → (setsA es (s * 3) (entV n e))[i]? = es[i]? := by
  have hl : (entV n e).length = 3 := rfl
  refine ⟨setsA_size _ _ _, fun j hj => ?_, fun i hi => ?_⟩
  · rw [setsA_get, if_pos (by omega)]
    congr 1; omega
  · rw [setsA_get, if_neg (by omega)]
theorem map_in {n : Nat} (hn : n ∈ que c.B) : inI (mapL r c.B) (r n : Int) = true := by
  unfold inI
  have : inL (mapL r c.B) (r n) = true := by
    rw [← mem_que, que_map]; exact List.mem_map_of_mem hn
  simp [this]
end
def Acted (k : Nat) (t : Tags) (h : Heap) (p S : Nat) (c' : Cm) (h' : Heap) : Prop := ∃ t', CRep k t' h' p S c' ∧ Fr (fun q => q.1 ≠ k) t h t' h'
section
variable {k S p rb ib eb fc : Nat} {t t' : Tags} {h h' : Heap} {fa : Option Addr} {c : Cm} {r : Nat → Nat} {M : Int → Option Int} {fr : List Nat} {es : Array Value} {T TE : TypeId}
theorem Acted.trans {h2 : Heap} {c' : Cm} (f : Fr (fun q => q.1 ≠ k) t h t' h') (a : Acted k t' h' p S c' h2) : Acted k t h p S c' h2 := by
  obtain ⟨t2, r, f2⟩ := a; exact ⟨t2, r, f.trans f2⟩
theorem slot_ok (x : Int) (a : CH k t h p rb ib eb fa fc S c r M fr es T TE) (d : CD S c r M fr es) :
    CallsH Tryz.prog 42 [ptr p, .int .i64 x] h fun v h' => New h h' ∧ (at_ c x = none ∧ v = .tuple #[.int .i64 0, .bool false] ∨ ∃ (n : Nat) (e : Int × Bool), x = n ∧ n < 64 ∧ n ∈ que c.B ∧ c.E n = some e ∧ at_ c x = some e ∧ v = .tuple #[.int .i64 (r n), .bool true]) := by
  refine fun_ok hm' Tryz.func42 (by kernel_rfl) (F42_eq _ _ _ h) ?_
  unfold F42
  have big : ¬ (0 ≤ x ∧ x < 64) → at_ c x = none := fun hx => by
    cases hh : at_ c x with
    | none => rfl
    | some e =>
      obtain ⟨n, rfl, h64, _⟩ := at_mem d.inv hh
      exact (hx ⟨by omega, by omega⟩).elim
  refine cut_q (ts := []) (fun _ h' => h' = h ∧ 0 ≤ x ∧ x < 64) ?_ ?_
  rotate_left
  · intro K hK
    refine br_of (fun h0 => ?_) fun h0 => br_of (fun h1 => ?_) fun h1 => hK () _ ⟨rfl, ?_, ?_⟩
    · have h0 : x < 0 := of_decide_eq_true h0
      exact ⟨New.refl h, .inl ⟨big (by omega), rfl⟩⟩
    · have h1 : x ≥ 64 := of_decide_eq_true h1
      exact ⟨New.refl h, .inl ⟨big (by omega), rfl⟩⟩
    · have h0 : ¬ x < 0 := of_decide_eq_false h0
      omega
    · have h1 : ¬ x ≥ 64 := of_decide_eq_false h1
      omega
  rintro _ h' ⟨hh, h0, h1⟩ _; subst h'
  obtain ⟨n, rfl⟩ := Int.eq_ofNat_of_zero_le h0
  have ew : IntKind.wrap .u32 (n : Int) = (n : Int) := by rw [wru32]; omega
  rw [ew]
  refine ld_of (c := .ptr) (some ⟨ib, 0, none⟩) a.c1 (call_of (Ix.get_ok ib n h M _ _ a.ix) ?_)
  rintro v h' ⟨rfl, hn⟩
  refine ⟨((M n).getD 0, (M n).isSome), rfl, hn, ?_⟩
  have hk := d.key (n : Int)
  rw [Int.toNat_natCast] at hk
  by_cases hq : n ∈ que c.B
  · rw [if_pos ⟨h0, hq⟩] at hk
    obtain ⟨e, he⟩ := Option.isSome_iff_exists.1 ((d.inv.mem n).1 hq)
    rw [hk]
    exact .inr ⟨n, e, rfl, by omega, hq, he, by rw [at_nat]; exact he, rfl⟩
  · rw [if_neg fun hh => hq hh.2] at hk
    rw [hk]
    refine .inl ⟨?_, rfl⟩
    rw [at_nat]
    cases he : c.E n with
    | none => rfl
    | some e => exact (hq (d.E_que he)).elim
theorem peek_ok (x : Int) (a : CRep k t h p S c) :
    CallsH Tryz.prog 22 [ptr p, .int .i64 x] h fun v h' => v = .tuple #[.int .u32 (peekC c x).1, .bool (peekC c x).2] ∧ New h h' := by
  obtain ⟨rb, ib, eb, fa, fc, r, M, fr, es, T, TE, a, d⟩ := a
  refine fun_ok hm' Tryz.func22 (by kernel_rfl) (F22_eq _ _ _ h) ?_
  unfold F22
  refine call_of (slot_ok x a d) ?_
  rintro v h1 ⟨n1, ⟨h0, rfl⟩ | ⟨n, e, rfl, h64, hq, he, ha, rfl⟩⟩
  · exact ⟨((0 : Int), false), rfl, br_t rfl ⟨by unfold peekC; rw [h0], n1⟩⟩
  · have a1 := a.new n1
    have hlt := d.lt n hq
    refine ⟨((r n : Int), true), rfl, br_f rfl (ld_of (c := .slice) (some ⟨eb, 0, none⟩, S, S) a1.c2 (ptr_of ⟨⟨(by first | omega | (dsimp only; omega) | (simp only []; omega)), rfl⟩, ?_⟩))⟩
    rw [Int.toNat_natCast, add_mk, add_mk, Nat.zero_add]
    refine ld_of (c := .int .u32) e.1 (a1.ent d he 1 (by decide)) ⟨?_, n1⟩
    unfold peekC; rw [ha]
theorem CD.tou (d : CD S c r M fr es) {n : Nat} (hn : n ∈ que c.B) : CD S ⟨touL S c.B n, c.E⟩ r M fr es := by
  have p := tou_perm (S := S) d.inv.nd hn
  refine ⟨d.inv.tou hn fun _ => rfl, fun m hm m' hm' => d.inj m (p.mem_iff.1 hm) m' (p.mem_iff.1 hm'), fun x => ?_, d.size, d.ent, fun s => ?_, d.fnd, ?_, fun m hm => d.lt m (p.mem_iff.1 hm)⟩
  · rw [d.key x]
    by_cases hx : 0 ≤ x ∧ x.toNat ∈ que c.B
    · rw [if_pos hx, if_pos ⟨hx.1, p.mem_iff.2 hx.2⟩]
    · rw [if_neg hx, if_neg fun hh => hx ⟨hh.1, p.mem_iff.1 hh.2⟩]
  · rw [d.free, (p.map r).mem_iff]
  · rw [p.length_eq]; exact d.flen
/-- Behind a Touch. -/
theorem CH.tou (a : CH k t h p rb ib eb fa fc S c r M fr es T TE) (d : CD S c r M fr es) {n : Nat} (hn : n ∈ que c.B) (o : Only rb h h') (x : RkOk h' rb S (touL S (mapL r c.B) (r n))) :
    CH k t h' p rb ib eb fa fc S ⟨touL S c.B n, c.E⟩ r M fr es T TE ∧ Fr (fun q => q.1 ≠ k) t h t h' := by
  have hp := tou_perm (S := S) d.inv.nd hn
  refine ⟨⟨a.own, a.blk.only o (tag_ne a.tp a.tr (by decide)), rk_same x rfl (tou_map d.inv.nd d.inj hn), ?_, a.eblk.only o (tag_ne a.te a.tr (by decide)), a.frow.keep fun g _ _ hg e => o.same g (tag_ne (a.tf g e).2 a.tr (by decide)), a.tp, a.tr, a.ti, a.te, fun g hg => ⟨by rw [o.size]; exact (a.tf g hg).1, (a.tf g hg).2⟩⟩, Fr.upd o.upd (by rw [a.tr]; exact fun hh => hh rfl)⟩
  rw [hp.length_eq]
  exact a.ix.only o (tag_ne a.ti a.tr (by decide))
theorem get_ok (x : Int) (a : CRep k t h p S c) :
    CallsH Tryz.prog 30 [ptr p, .int .i64 x] h fun v h' => v = .tuple #[.int .u32 (peekC c x).1, .bool (peekC c x).2] ∧ Acted k t h p S (getC S c x) h' := by
  have a0 := a
  obtain ⟨rb, ib, eb, fa, fc, r, M, fr, es, T, TE, a, d⟩ := a
  refine fun_ok hm' Tryz.func30 (by kernel_rfl) (F30_eq _ _ _ h) ?_
  unfold F30
  refine cut_q (ts := []) (fun _ h' => CRep k t h' p S (getC S c x) ∧ Fr (fun q => q.1 ≠ k) t h t h' ∧ peekC (getC S c x) x = peekC c x) ?_ ?_
  rotate_left
  · intro K hK
    refine call_of (slot_ok x a d) ?_
    rintro v h1 ⟨n1, ⟨h0, rfl⟩ | ⟨n, e, rfl, h64, hq, he, ha, rfl⟩⟩
    · refine ⟨((0 : Int), false), rfl, br_f rfl (hK () _ ?_)⟩
      have : getC S c x = c := by unfold getC; rw [h0]
      rw [this]
      exact ⟨a0.new n1, Fr.new0 n1, rfl⟩
    · have a1 := a.new n1
      refine ⟨((r n : Int), true), rfl, br_t rfl (ld_of (c := .ptr) (some ⟨rb, 0, none⟩) a1.c0 (call_of (Lru.touch_ok rb (r n) h1 S _ a1.rk) ?_))⟩
      rintro v h2 ⟨rfl, x2, o2⟩
      rw [if_pos (map_in hq), Int.toNat_natCast] at x2
      obtain ⟨a2, f2⟩ := a1.tou d hq o2 x2
      have eg : getC S c (n : Int) = ⟨touL S c.B n, c.E⟩ := by unfold getC; rw [ha]; simp
      refine ⟨_, rfl, hK () _ ?_⟩
      rw [eg]
      exact ⟨⟨rb, ib, eb, fa, fc, r, M, fr, es, T, TE, a2, d.tou hq⟩, (Fr.new0 n1).trans f2, rfl⟩
  rintro _ h1 ⟨a1, f1, e1⟩ _
  refine call_of (peek_ok x a1) ?_
  rintro v h2 ⟨rfl, n2⟩
  rw [e1]
  exact ⟨((peekC c x).1, (peekC c x).2), rfl, rfl, t, a1.new n2, f1.trans (Fr.new0 n2)⟩
/-- Behind a store into the entries. -/
theorem CH.ents (a : CH k t h p rb ib eb fa fc S c r M fr es T TE) (o : Only eb h h') {es' : Array Value} (hb : Blk h' eb es' TE) (E : Nat → Option (Int × Bool)) :
    CH k t h' p rb ib eb fa fc S ⟨c.B, E⟩ r M fr es' T TE ∧ Fr (fun q => q.1 ≠ k) t h t h' :=
  ⟨⟨a.own, a.blk.only o (tag_ne a.tp a.te (by decide)), a.rk.only o (tag_ne a.tr a.te (by decide)), a.ix.only o (tag_ne a.ti a.te (by decide)), hb, a.frow.keep fun g _ _ hg e => o.same g (tag_ne (a.tf g e).2 a.te (by decide)), a.tp, a.tr, a.ti, a.te, fun g hg => ⟨by rw [o.size]; exact (a.tf g hg).1, (a.tf g hg).2⟩⟩, Fr.upd o.upd (by rw [a.te]; exact fun hh => hh rfl)⟩
theorem move_ok (x ad : Int) (a : CRep k t h p S c) :
    CallsH Tryz.prog 24 [ptr p, .int .i64 x, .int .u32 ad] h fun v h' => v = .bool (moveC c x ad).1 ∧ Acted k t h p S (moveC c x ad).2 h' := by
  have a0 := a
  obtain ⟨rb, ib, eb, fa, fc, r, M, fr, es, T, TE, a, d⟩ := a
  refine fun_ok hm' Tryz.func24 (by kernel_rfl) (F24_eq _ _ _ _ h) ?_
  unfold F24
  refine call_of (slot_ok x a d) ?_
  rintro v h1 ⟨n1, ⟨h0, rfl⟩ | ⟨n, e, rfl, h64, hq, he, ha, rfl⟩⟩
  · refine ⟨((0 : Int), false), rfl, br_f rfl ?_⟩
    have : moveC c x ad = (false, c) := by unfold moveC; rw [h0]
    rw [this]
    exact ⟨rfl, t, a0.new n1, Fr.new0 n1⟩
  · have a1 := a.new n1
    have hlt := d.lt n hq
    have hsz := d.size
    refine ⟨((r n : Int), true), rfl, br_t rfl (ld_of (c := .slice) (some ⟨eb, 0, none⟩, S, S) a1.c2 (ptr_of ⟨⟨(by first | omega | (dsimp only; omega) | (simp only []; omega)), rfl⟩, ?_⟩))⟩
    rw [Int.toNat_natCast, add_mk, add_mk, Nat.zero_add]
    refine st_blk a1.eblk (by omega) fun h2 b2 o2 => ?_
    have eg : moveC c (n : Int) ad = (true, ⟨c.B, setE c.E n (some (ad, e.2))⟩) := by unfold moveC; rw [ha]; simp
    rw [eg]
    obtain ⟨a2, f2⟩ := a1.ents o2 b2 (setE c.E n (some (ad, e.2)))
    refine ⟨rfl, t, ⟨rb, ib, eb, fa, fc, r, M, fr, _, T, TE, a2, d.set hq (ad, e.2) _ (by simp) (fun j hj => ?_) fun i hi => ?_⟩, (Fr.new0 n1).trans f2⟩
    · have hj' : j = 0 ∨ j = 1 ∨ j = 2 := by omega
      rcases hj' with rfl | rfl | rfl
      · rw [Array.getElem?_setIfInBounds_ne (by omega), d.ent n e he 0 (by decide)]; rfl
      · rw [Array.getElem?_setIfInBounds_self_of_lt (by omega)]; rfl
      · rw [Array.getElem?_setIfInBounds_ne (by omega), d.ent n e he 2 (by decide)]; rfl
    · rw [Array.getElem?_setIfInBounds_ne (by omega)]
theorem victim_ok (a : CRep k t h p S c) :
    CallsH Tryz.prog 19 [ptr p] h fun v h' => v = .tuple #[.agg #[.int .i64 (((vicC c).map Prod.fst).getD 0 : Nat), .int .u32 (((vicC c).map fun z => z.2.1).getD 0), .bool (((vicC c).map fun z => z.2.2).getD false)], .bool (vicC c).isSome] ∧ New h h' := by
  obtain ⟨rb, ib, eb, fa, fc, r, M, fr, es, T, TE, a, d⟩ := a
  refine fun_ok hm' Tryz.func19 (by kernel_rfl) (F19_eq _ _ h) ?_
  unfold F19
  have z3 : zeroC Tryz.prog 60 = #[.int .i64 0, .int .u32 0, .bool false] := by kernel_rfl
  rw [z3]
  refine new_of fun h1 b1 n1 s1 => ?_
  have a1 := a.new n1
  refine ld_of (c := .ptr) (some ⟨rb, 0, none⟩) a1.c0 (call_of (Lru.victim_ok rb h1 S _ a1.rk) ?_)
  rintro v h' ⟨rfl, hh⟩; subst h'
  rw [vic_map]
  unfold vicC
  cases hv : vicL c.B with
  | none =>
    refine ⟨((0 : Int), false), rfl, br_t rfl (stL_blk b1 (by simp) fun h2 b2 o2 => ?_)⟩
    refine ldAgg_blk (cs := [.int .i64, .int .u32, .bool]) ((0, 0, false) : Int × Int × Bool) b2 ⟨rfl, rfl, rfl, trivial⟩ ⟨rfl, o2.upd.new n1 (Nat.le_refl _)⟩
  | some n =>
    obtain ⟨hq, e, he⟩ := d.inv.vic hv
    have hlt := d.lt n hq
    refine ⟨((r n : Int), true), rfl, br_f rfl (ld_of (c := .slice) (some ⟨eb, 0, none⟩, S, S) a1.c2 (ptr_of ⟨⟨(by first | omega | (dsimp only; omega) | (simp only []; omega)), rfl⟩, ?_⟩))⟩
    rw [Int.toNat_natCast, add_mk, Nat.zero_add]
    have ce := fun j hj => a1.ent d he j hj
    have c0 := ce 0 (by decide)
    refine ⟨((n, e.1, e.2) : Int × Int × Bool), ⟨by rw [add_mk]; exact ce 0 (by decide), by rw [add_mk]; exact ce 1 (by decide), by rw [add_mk]; exact ce 2 (by decide), trivial⟩, stL_blk b1 (by simp) fun h2 b2 o2 => ?_⟩
    refine ldAgg_blk (cs := [.int .i64, .int .u32, .bool]) ((n, e.1, e.2) : Int × Int × Bool) b2 ⟨rfl, rfl, rfl, trivial⟩ ⟨?_, o2.upd.new n1 (Nat.le_refl _)⟩
    simp only [enE, he]
    rfl
/-- One number more, in a row of one's own. -/
theorem own_push {xs : List Nat} {x fc : Nat} {fa : Option Addr} {h : Heap} (ow : OwnH h 0 TI 1 fa xs.length fc (nV xs)) (hn : xs.length ≤ 1000) {F : Option Addr → Nat → Nat → Heap → Prop}
    (hF : ∀ a' c' h', OwnH h' 0 TI 1 a' (xs ++ [x]).length c' (nV (xs ++ [x])) → UpdO (blkOf fa) h h' → (blkOf a' = blkOf fa ∨ ∃ g, blkOf a' = some g ∧ h.size ≤ g) → F a' (xs ++ [x]).length c' h') :
    newW (.cells #[.int .i64 x] TI) (fun q h' => apW Tryz.prog #[45, 45] #[.slice fa xs.length fc, .slice (some q) 1 1] F h') h := by
  refine new_of fun h1 b1 n1 s1 => ?_
  have ow1 : OwnH h1 0 TI 1 fa xs.length fc (nV xs) := ow.keep fun g _ _ hg _ => n1.same g hg.lt
  refine ap_row apF (.inl ow1) [.int .i64 x] rfl (fun j u hu => ?_) (fun u hu => by rw [List.mem_singleton.1 hu]; rfl) (by simp only [maxLen]; omega) (by omega) fun a' c' h2 _ w o2 => ?_
  · have hj : j = 0 := by have := (List.getElem?_eq_some_iff.1 hu).1; simp at this; omega
    subst hj
    rw [add_mk, cellH_blk b1]; exact hu
  · have e : nV (xs ++ [x]) = nV xs ++ [.int .i64 x] := by simp
    have hl : (xs ++ [x]).length = xs.length + 1 := by simp
    rw [← hl]
    refine hF a' c' h2 (by rw [e, hl]; exact o2 (by decide)) ⟨Nat.le_trans n1.size w.upd.size, fun b hb hne => ?_⟩ ?_
    · exact (w.upd.same b (Nat.lt_of_lt_of_le hb n1.size) hne).trans (n1.same b hb)
    · rcases w.at_ with e | ⟨g, e, hg, _⟩
      · exact .inl e
      · exact .inr ⟨g, e, by have := n1.size; omega⟩
theorem CD.drop (d : CD S c r M fr es) {n : Nat} (hn : n ∈ que c.B) : CD S ⟨del c.B n, setE c.E n none⟩ r (setM M n none) (fr ++ [r n]) es := by
  have hm : ∀ m, m ∈ que (del c.B n) ↔ m ∈ que c.B ∧ m ≠ n := fun m => by rw [que_del, List.mem_filter]; simp
  have hi : Inv S ⟨del c.B n, setE c.E n none⟩ := by
    have := d.inv.drop (n : Int)
    unfold dropC at this
    obtain ⟨e, he⟩ := Option.isSome_iff_exists.1 ((d.inv.mem n).1 hn)
    rw [at_nat, he] at this
    simpa using this
  have hrn : r n ∉ fr := fun hh => ((d.free _).1 hh).2 (List.mem_map_of_mem hn)
  refine ⟨hi, fun a ha b hb e => d.inj a ((hm a).1 ha).1 b ((hm b).1 hb).1 e, fun x => ?_, d.size, fun m e he => ?_, fun s => ?_, ?_, ?_, fun m h => d.lt m ((hm m).1 h).1⟩
  · unfold setM
    by_cases hx : x = n
    · subst hx
      rw [if_pos rfl, if_neg fun hh => ((hm _).1 hh.2).2 (Int.toNat_natCast n)]
    · rw [if_neg hx, d.key]
      by_cases h0 : 0 ≤ x ∧ x.toNat ∈ que c.B
      · rw [if_pos h0, if_pos ⟨h0.1, (hm _).2 ⟨h0.2, by omega⟩⟩]
      · rw [if_neg h0, if_neg fun hh => h0 ⟨hh.1, ((hm _).1 hh.2).1⟩]
  · have he : setE c.E n none m = some e := he
    have hmn : m ≠ n := fun e' => by subst e'; rw [setE_same] at he; cases he
    rw [setE_ne _ _ hmn] at he
    exact d.ent m e he
  · rw [List.mem_append, List.mem_singleton, d.free, List.mem_map, List.mem_map]
    constructor
    · rintro (⟨h1, h2⟩ | rfl)
      · exact ⟨h1, fun ⟨m, hm', e⟩ => h2 ⟨m, ((hm m).1 hm').1, e⟩⟩
      · exact ⟨d.lt n hn, fun ⟨m, hm', e⟩ => ((hm m).1 hm').2 (d.inj m ((hm m).1 hm').1 n hn e)⟩
    · rintro ⟨h1, h2⟩
      by_cases e : s = r n
      · exact .inr e
      · exact .inl ⟨h1, fun ⟨m, hm', e'⟩ => h2 ⟨m, (hm m).2 ⟨hm', fun e2 => e (by rw [← e', e2])⟩, e'⟩⟩
  · rw [List.nodup_append]
    exact ⟨d.fnd, by simp, fun a ha b hb e => by rw [List.mem_singleton] at hb; subst hb; exact hrn (e ▸ ha)⟩
  · have := del_len d.inv.nd hn
    have := d.flen
    rw [List.length_append, List.length_singleton]
    show fr.length + 1 + (que (del c.B n)).length = S
    omega
theorem drop_ok (x : Int) (a : CRep k t h p S c) :
    CallsH Tryz.prog 25 [ptr p, .int .i64 x] h fun v h' => v = .bool (dropC c x).1 ∧ Acted k t h p S (dropC c x).2 h' := by
  have a0 := a
  obtain ⟨rb, ib, eb, fa, fc, r, M, fr, es, T, TE, a, d⟩ := a
  refine fun_ok hm' Tryz.func25 (by kernel_rfl) (F25_eq _ _ _ h) ?_
  unfold F25
  refine call_of (slot_ok x a d) ?_
  rintro v h1 ⟨n1, ⟨h0, rfl⟩ | ⟨n, e, rfl, h64, hq, he, ha, rfl⟩⟩
  · refine ⟨((0 : Int), false), rfl, br_t rfl ?_⟩
    have : dropC c x = (false, c) := by unfold dropC; rw [h0]
    rw [this]
    exact ⟨rfl, t, a0.new n1, Fr.new0 n1⟩
  have a1 := a.new n1
  have hfl := d.flen
  have hSle := d.inv.le
  refine ⟨((r n : Int), true), rfl, br_f rfl (ld_of (c := .slice) (fa, fr.length, fc) a1.c3 (own_push a1.frow (by omega) fun fa2 fc2 h2 ow2 u2 at2 => ?_))⟩
  rw [add_mk]
  have hup : ∀ b, b < h1.size → (∀ g, blkOf fa = some g → b ≠ g) → h2[b]? = h1[b]? := fun b hb hne => u2.same b hb fun e => hne b e.symm rfl
  have tg : ∀ {b i}, t b = (k, i) → i ≠ 4 → ∀ g, blkOf fa = some g → b ≠ g := fun hb hi g hg => tag_ne hb (a1.tf g hg).2 hi
  have hrb := a1.rk.lt
  have hib := a1.ix.lt
  have p2 : Blk h2 p _ T := (hup p a1.blk.lt (tg a.tp (by decide))).trans a1.blk
  refine st_blk p2 (by simp) fun h3 p3 o3 => ?_
  have p3 : Blk h3 p #[ptr rb, ptr ib, .slice (some ⟨eb, 0, none⟩) S S, .slice fa2 (fr ++ [r n]).length fc2] T := p3
  have i3 : Ix.IxOk h3 ib M (que c.B).length S := ix_same a1.ix ((o3.same ib (tag_ne a.ti a.tp (by decide))).trans (hup ib hib (tg a.ti (by decide))))
  have r3 : RkOk h3 rb S (mapL r c.B) := rk_same a1.rk ((o3.same rb (tag_ne a.tr a.tp (by decide))).trans (hup rb hrb (tg a.tr (by decide)))) (Same2.refl _)
  have ew : IntKind.wrap .u32 (n : Int) = (n : Int) := by rw [wru32]; omega
  rw [ew]
  refine ld_of (c := .ptr) (some ⟨ib, 0, none⟩) (by rw [add_mk, cellH_blk p3]; rfl) (call_of (Ix.drop_ok ib n h3 M _ _ i3) ?_)
  rintro v h4 ⟨u4, rfl, i4, _⟩
  have hMn : M (n : Int) = some (r n : Int) := by rw [d.key, Int.toNat_natCast, if_pos ⟨by omega, hq⟩]
  rw [hMn] at i4 ⊢
  have p4 := p3.upd u4 (tag_ne a.tp a.ti (by decide))
  have r4 := r3.upd u4 (tag_ne a.tr a.ti (by decide))
  refine ⟨true, rfl, br_t rfl (ld_of (c := .ptr) (some ⟨rb, 0, none⟩) (by rw [add_mk, cellH_blk p4]; rfl) (call_of (Lru.remove_ok rb (r n) h4 S _ r4) ?_))⟩
  rintro v h5 ⟨rfl, r5, o5⟩
  rw [map_in hq] at r5 ⊢
  rw [if_pos rfl, Int.toNat_natCast] at r5
  have eg : dropC c (n : Int) = (true, ⟨del c.B n, setE c.E n none⟩) := by unfold dropC; rw [ha]; simp
  rw [eg]
  have e2 : h2[eb]? = h1[eb]? := hup eb a1.eblk.lt (tg a.te (by decide))
  have hs2 := u2.size
  have hs3 := o3.size
  have hs4 := u4.size
  have hs5 := o5.size
  have hs1 := n1.size
  have t4 : ∀ b, b < h.size → b < h1.size := fun b hb => Nat.lt_of_lt_of_le hb hs1
  -- all blocks but the cache's own
  have hall : ∀ b, b < h1.size → (t b).1 ≠ k → h5[b]? = h1[b]? := fun b hb hne => by
    have nb : ∀ {c i}, t c = (k, i) → b ≠ c := fun hc e => hne (by rw [e, hc])
    rw [o5.same b (nb a.tr), u4.same b (by omega) (nb a.ti), o3.same b (nb a.tp), hup b hb fun g hg e => hne (by rw [e, (a1.tf g hg).2])]
  have fl : ∀ g, blkOf fa2 = some g → g < h2.size := fun g hg => by
    rcases ow2.row.2 with ⟨rfl, _⟩ | ⟨g', cur, rfl, _, hb, _⟩
    · cases hg
    · injection hg with hg; change g' = g at hg; subst hg; exact hb.lt
  have fg : ∀ g, blkOf fa2 = some g → (g < h1.size ∧ t g = (k, 4)) ∨ h1.size ≤ g := fun g hg => by
    rcases at2 with e | ⟨g', e, hg'⟩
    · exact .inl (a1.tf g (e ▸ hg))
    · rw [e] at hg; injection hg with hg; subst hg; exact .inr hg'
  have fne : ∀ g, blkOf fa2 = some g → ∀ b i, t b = (k, i) → b < h1.size → i ≠ 4 → g ≠ b := fun g hg b i hb hlt hi => by
    rcases fg g hg with ⟨_, h2⟩ | h2
    · exact tag_ne h2 hb (Ne.symm hi)
    · omega
  refine ⟨true, rfl, rfl, lay t h1.size (k, 4), ⟨rb, ib, eb, fa2, fc2, r, _, fr ++ [r n], es, T, TE, ⟨a.own, p4.only o5 (tag_ne a.tp a.tr (by decide)), rk_same r5 rfl (del_map d.inj hq), ?_, ?_, ?_, ?_, ?_, ?_, ?_, fun g hg => ?_⟩, d.drop hq⟩, ?_, ?_, ?_⟩
  · have hl : (que (del c.B n)).length = (que c.B).length - 1 := by have := del_len d.inv.nd hq; omega
    have i5 := i4.only o5 (tag_ne a.ti a.tr (by decide))
    show Ix.IxOk h5 ib _ (que (del c.B n)).length _
    rw [hl]; exact i5
  · refine Eq.trans ?_ a1.eblk
    rw [o5.same eb (tag_ne a.te a.tr (by decide)), u4.same eb (by have := a1.eblk.lt; omega) (tag_ne a.te a.ti (by decide)), o3.same eb (tag_ne a.te a.tp (by decide)), e2]
  · refine ow2.keep fun g _ _ hg e => ?_
    rw [o5.same g (fne g e rb 1 a.tr hrb (by decide)), u4.same g (by have := fl g e; omega) (fne g e ib 2 a.ti hib (by decide)), o3.same g (fne g e p 0 a.tp a1.blk.lt (by decide))]
  · rw [lay_lt a1.blk.lt]; exact a.tp
  · rw [lay_lt hrb]; exact a.tr
  · rw [lay_lt hib]; exact a.ti
  · rw [lay_lt a1.eblk.lt]; exact a.te
  · refine ⟨by have := fl g hg; omega, ?_⟩
    rcases fg g hg with ⟨h1', h2'⟩ | h1'
    · rw [lay_lt h1']; exact h2'
    · rw [lay_ge h1']
  · omega
  · exact fun b hb => lay_lt (t4 b hb)
  · exact fun b hb hk => (hall b (t4 b hb) hk).trans (n1.same b hb)
theorem take_own {m fc : Nat} {xs : List Nat} {fa : Option Addr} {h : Heap} (o : OwnH h 0 TI 1 fa xs.length fc (nV xs)) (hm : m ≤ xs.length) (hn : 0 < xs.length) : OwnH h 0 TI 1 fa (xs.take m).length fc (nV (xs.take m)) := by
  have hl : (xs.take m).length = m := by rw [List.length_take]; omega
  rw [hl]
  refine ⟨by simp; omega, ?_⟩
  rcases o.2 with ⟨h1, h2⟩ | ⟨g, cap, cur, h1, h2, h3, h4, h5, h6, h7⟩
  · omega
  · injection h1 with h1 _ hc
    subst hc
    refine .inr ⟨g, fc, cur, by rw [h1], h2, h3, by omega, h5, h6, ?_⟩
    have : cur.toList.take (m * 1) = (cur.toList.take (xs.length * 1)).take m := by rw [List.take_take, Nat.mul_one, Nat.mul_one, Nat.min_eq_left hm]
    rw [this, h7]
    exact (List.map_take ..).symm
theorem base0 (a : Option Addr) (c : Nat) : sliceBase a (0 : Int).toNat c 1 = a := by
  unfold sliceBase; split
  · rfl
  · cases a with
    | none => rfl
    | some x => cases x; rfl
def upR (r : Nat → Nat) (n s : Nat) : Nat → Nat := fun m => if m = n then s else r m
theorem upR_map {r : Nat → Nat} {n s : Nat} {l : List Nat} (hn : n ∉ l) : l.map (upR r n s) = l.map r := List.map_congr_left fun m hm => by unfold upR; rw [if_neg]; exact fun e => hn (e ▸ hm)
theorem CD.put {s : Nat} (d : CD S c r M (fr ++ [s]) es) {n : Nat} (hn : n ∉ que c.B) (h64 : n < 64) (e : Int × Bool) (es' : Array Value) (hs : es'.size = es.size) (h1 : ∀ j, j < 3 → es'[s * 3 + j]? = (entV n e)[j]?) (h2 : ∀ i, i / 3 ≠ s → es'[i]? = es[i]?) :
    CD S ⟨upL c.B 0 (n :: c.B 0), setE c.E n (some e)⟩ (upR r n s) (setM M n (some (s : Int))) fr es' := by
  have hfl := d.flen
  rw [List.length_append, List.length_singleton] at hfl
  have hp := up0_perm c.B n
  have hs2 : s < S ∧ s ∉ (que c.B).map r := (d.free s).1 (by simp)
  have hinv : Inv S ⟨upL c.B 0 (n :: c.B 0), setE c.E n (some e)⟩ := by
    have := d.inv.put (n : Int) e.1 e.2
    unfold putC at this
    have hE : c.E n = none := by
      cases he : c.E n with
      | none => rfl
      | some e => exact (hn (d.E_que he)).elim
    rw [at_nat, hE] at this
    simp only [] at this
    rw [if_pos ⟨by omega, by omega, by omega⟩] at this
    simpa using this
  have rn : upR r n s n = s := if_pos rfl
  have rm : ∀ {m}, m ≠ n → upR r n s m = r m := fun h => if_neg h
  have sne : ∀ m, m ∈ que c.B → r m ≠ s := fun m hm e => hs2.2 (e ▸ List.mem_map_of_mem hm)
  have hnd := d.fnd
  rw [List.nodup_append] at hnd
  refine ⟨hinv, fun a ha b hb e => ?_, fun x => ?_, by rw [hs]; exact d.size, fun m e' he j hj => ?_, fun s' => ?_, hnd.1, ?_, fun m hm => ?_⟩
  · have ha := List.mem_cons.1 (hp.mem_iff.1 ha)
    have hb := List.mem_cons.1 (hp.mem_iff.1 hb)
    by_cases han : a = n
    · by_cases hbn : b = n
      · rw [han, hbn]
      · rw [han, rn, rm hbn] at e
        exact (sne b (hb.resolve_left hbn) e.symm).elim
    · by_cases hbn : b = n
      · rw [hbn, rn, rm han] at e
        exact (sne a (ha.resolve_left han) e).elim
      · rw [rm han, rm hbn] at e
        exact d.inj a (ha.resolve_left han) b (hb.resolve_left hbn) e
  · unfold setM
    by_cases hx : x = n
    · subst hx
      rw [if_pos rfl, if_pos ⟨by omega, hp.mem_iff.2 (by simp)⟩, Int.toNat_natCast, rn]
    · rw [if_neg hx, d.key]
      by_cases h0 : 0 ≤ x ∧ x.toNat ∈ que c.B
      · rw [if_pos h0, if_pos ⟨h0.1, hp.mem_iff.2 (List.mem_cons_of_mem _ h0.2)⟩, rm (by omega)]
      · rw [if_neg h0, if_neg fun hh => ?_]
        rcases List.mem_cons.1 (hp.mem_iff.1 hh.2) with e | e
        · omega
        · exact h0 ⟨hh.1, e⟩
  · have he : setE c.E n (some e) m = some e' := he
    by_cases hm : m = n
    · subst hm
      rw [setE_same] at he
      rw [← Option.some.inj he, rn]; exact h1 j hj
    · rw [setE_ne _ _ hm] at he
      have hmq := d.E_que he
      rw [rm hm, h2 _ (by have := sne m hmq; omega)]
      exact d.ent m e' he j hj
  · have hmp : (que (upL c.B 0 (n :: c.B 0))).map (upR r n s) |>.Perm (s :: (que c.B).map r) := by
      have := hp.map (upR r n s)
      rw [List.map_cons, rn, upR_map hn] at this
      exact this
    rw [hmp.mem_iff, List.mem_cons]
    have h0 := d.free s'
    rw [List.mem_append, List.mem_singleton] at h0
    constructor
    · intro hh
      have := h0.1 (.inl hh)
      exact ⟨this.1, fun e => e.elim (fun e => hnd.2.2 s' hh s (by simp) e) this.2⟩
    · rintro ⟨h3, h4⟩
      rcases h0.2 ⟨h3, fun e => h4 (.inr e)⟩ with e | e
      · exact e
      · exact (h4 (.inl e)).elim
  · rw [hp.length_eq, List.length_cons]; omega
  · rcases List.mem_cons.1 (hp.mem_iff.1 hm) with rfl | hm
    · rw [rn]; exact hs2.1
    · rw [rm fun e => hn (e ▸ hm)]; exact d.lt m hm
theorem put_ok (x ad : Int) (di : Bool) (a : CRep k t h p S c) :
    CallsH Tryz.prog 21 [ptr p, .int .i64 x, .int .u32 ad, .bool di] h fun v h' => v = .bool (putC S c x ad di).1 ∧ Acted k t h p S (putC S c x ad di).2 h' := by
  have a0 := a
  obtain ⟨rb, ib, eb, fa, fc, r, M, fr, es, T, TE, a, d⟩ := a
  refine fun_ok hm' Tryz.func21 (by kernel_rfl) (F21_eq _ _ _ _ _ h) ?_
  unfold F21
  refine call_of (slot_ok x a d) ?_
  rintro v h1 ⟨n1, ⟨h0, rfl⟩ | ⟨n, e, rfl, h64, hq, he, ha, rfl⟩⟩
  rotate_left
  · have a1 := a.new n1
    have hlt := d.lt n hq
    have hsz := d.size
    refine ⟨((r n : Int), true), rfl, br_t rfl ?_⟩
    have es3 := sets3 (es := es) (s := r n) (n := n) (e := (ad, di || e.2)) (by omega)
    refine cut_q (ts := []) (fun _ h' => CH k t h' p rb ib eb fa fc S ⟨c.B, setE c.E n (some (ad, di || e.2))⟩ r M fr (setsA es (r n * 3) (entV n (ad, di || e.2))) T TE ∧ Fr (fun q => q.1 ≠ k) t h1 t h') ?_ ?_
    rotate_left
    · intro K hK
      refine ld_of (c := .slice) (some ⟨eb, 0, none⟩, S, S) a1.c2 (br_of (fun hd => ptr_of ⟨⟨(by first | omega | (dsimp only; omega) | (simp only []; omega)), rfl⟩, ?_⟩) fun hd => ld_of (c := .slice) (some ⟨eb, 0, none⟩, S, S) a1.c2 (ptr_of ⟨⟨(by first | omega | (dsimp only; omega) | (simp only []; omega)), rfl⟩, ?_⟩))
      · subst hd
        rw [Int.toNat_natCast, add_mk, Nat.zero_add]
        exact stL_blk a1.eblk (by show r n * 3 + 3 ≤ es.size; omega) fun h2 b2 o2 => hK () _ (a1.ents o2 b2 _)
      · subst hd
        rw [Int.toNat_natCast, add_mk, add_mk, Nat.zero_add]
        refine ld_of (c := .bool) e.2 (a1.ent d he 2 (by decide)) (ptr_of ⟨⟨(by first | omega | (dsimp only; omega) | (simp only []; omega)), rfl⟩, ?_⟩)
        rw [add_mk, Nat.zero_add]
        exact stL_blk a1.eblk (by show r n * 3 + 3 ≤ es.size; omega) fun h2 b2 o2 => hK () _ (a1.ents o2 b2 _)
    rintro _ h2 ⟨a2, f2⟩ _
    have d2 := d.set hq (ad, di || e.2) _ es3.1 es3.2.1 es3.2.2
    refine ld_of (c := .ptr) (some ⟨rb, 0, none⟩) a2.c0 (call_of (Lru.touch_ok rb (r n) h2 S _ a2.rk) ?_)
    rintro v h3 ⟨rfl, x3, o3⟩
    have hi := map_in (r := r) hq
    rw [if_pos hi, Int.toNat_natCast] at x3
    obtain ⟨a3, f3⟩ := a2.tou d2 hq o3 x3
    have eg : putC S c (n : Int) ad di = (true, ⟨touL S c.B n, setE c.E n (some (ad, di || e.2))⟩) := by unfold putC; rw [ha]; simp
    rw [eg]
    exact ⟨_, rfl, by rw [show inI (mapL r (⟨c.B, setE c.E n (some (ad, di || e.2))⟩ : Cm).B) (r n : Int) = true from hi], t, ⟨rb, ib, eb, fa, fc, r, M, fr, _, T, TE, a3, d2.tou hq⟩, ((Fr.new0 n1).trans f2).trans f3⟩
  have a1 := a.new n1
  have hfl := d.flen
  have hle := d.inv.le
  refine ⟨((0 : Int), false), rfl, br_f rfl ?_⟩
  have no : ¬ (0 ≤ x ∧ x < 64 ∧ (que c.B).length < S) → putC S c x ad di = (false, c) := fun hh => by unfold putC; rw [h0]; simp only []; rw [if_neg hh]
  have ans : ¬ (0 ≤ x ∧ x < 64 ∧ (que c.B).length < S) → Value.bool false = .bool (putC S c x ad di).1 ∧ Acted k t h p S (putC S c x ad di).2 h1 := fun hh => by
    rw [no hh]; exact ⟨rfl, t, a0.new n1, Fr.new0 n1⟩
  refine cut_q (ts := []) (fun _ h' => h' = h1 ∧ (0 ≤ x ∧ x < 64 ∧ (que c.B).length < S)) ?_ ?_
  rotate_left
  · intro K hK
    refine br_of (fun g0 => ans ?_) fun g0 => br_of (fun g1 => ans ?_) fun g1 => ld_of (c := .slice) (fa, fr.length, fc) a1.c3 (br_of (fun g2 => ans ?_) fun g2 => hK () _ ⟨rfl, ?_⟩)
    · have g0 : x < 0 := of_decide_eq_true g0
      omega
    · have g1 : x ≥ 64 := of_decide_eq_true g1
      omega
    · have g2 : (fr.length : Int) = 0 := by simpa using g2
      omega
    · have g0 : ¬ x < 0 := of_decide_eq_false g0
      have g1 : ¬ x ≥ 64 := of_decide_eq_false g1
      have g2 : ¬ (fr.length : Int) = 0 := by simpa using g2
      omega
  rintro _ h' ⟨hh, hx⟩ _; subst h'
  obtain ⟨n, rfl⟩ := Int.eq_ofNat_of_zero_le hx.1
  obtain ⟨hx0, hx1, hx2⟩ := hx
  have eg : putC S c (n : Int) ad di = (true, ⟨upL c.B 0 (n :: c.B 0), setE c.E n (some (ad, di))⟩) := by unfold putC; rw [h0]; simp only []; rw [if_pos ⟨hx0, hx1, hx2⟩, Int.toNat_natCast]
  have hn : n ∉ que c.B := fun hm => by
    have := (d.inv.mem n).1 hm
    rw [at_nat] at h0
    rw [h0] at this; cases this
  clear no ans a0
  obtain ⟨fr0, s, rfl⟩ : ∃ l s, fr = l ++ [s] := ⟨fr.dropLast, fr.getLast (fun e => by subst e; simp at hfl; omega), (List.dropLast_concat_getLast _).symm⟩
  have hl1 : (fr0 ++ [s]).length = fr0.length + 1 := by simp
  have ew : IntKind.wrap .i64 (((fr0 ++ [s]).length : Int) - 1) = (fr0.length : Int) := by rw [wr64 (by omega) (by omega)]; omega
  refine ld_of (c := .slice) (fa, (fr0 ++ [s]).length, fc) a1.c3 (ld_of (c := .slice) (fa, (fr0 ++ [s]).length, fc) a1.c3 ?_)
  dsimp only
  rw [ew]
  obtain ⟨g, e1, _, hcell⟩ := a1.frow.cell (j := fr0.length) (u := .int .i64 s) (by simp)
  subst e1
  refine ptr_of ⟨⟨by omega, rfl⟩, ?_⟩
  rw [Int.toNat_natCast, Nat.mul_one, add_mk, Nat.zero_add]
  have hcap := OwnH.cap a1.frow
  refine ld_of (c := .int .i64) (s : Int) hcell (ld_of (c := .slice) (some ⟨g, 0, none⟩, (fr0 ++ [s]).length, fc) a1.c3 ⟨⟨by omega, by omega, (by first | omega | (dsimp only; omega) | (simp only []; omega)), (by first | omega | (dsimp only; omega) | (simp only []; omega))⟩, ?_⟩)
  dsimp only
  rw [base0]
  have ow := take_own a1.frow (m := fr0.length) (by omega) (by omega)
  rw [List.take_left'  rfl] at ow
  have ec : (Int.toNat (fr0.length : Int) - Int.toNat 0) = fr0.length := by omega
  have ec2 : (Int.toNat (fc : Int) - Int.toNat 0) = fc := by omega
  rw [ec, ec2, add_mk]
  refine st_blk a1.blk (by simp) fun h2 p2 o2 => ?_
  have p2 : Blk h2 p #[ptr rb, ptr ib, .slice (some ⟨eb, 0, none⟩) S S, .slice (some ⟨g, 0, none⟩) fr0.length fc] T := p2
  have hs := (d.free s).1 (by simp)
  have hsz := d.size
  have e2 := a1.eblk.only o2 (tag_ne a.te a.tp (by decide))
  refine ld_of (c := .slice) (some ⟨eb, 0, none⟩, S, S) (by rw [add_mk, cellH_blk p2]; rfl) (ptr_of ⟨⟨(by first | omega | (dsimp only; omega) | (simp only []; omega)), rfl⟩, ?_⟩)
  rw [Int.toNat_natCast, add_mk, Nat.zero_add]
  have es3 := sets3 (es := es) (s := s) (n := n) (e := (ad, di)) (by omega)
  refine stL_blk e2 (by show s * 3 + 3 ≤ es.size; omega) fun h3 e3 o3 => ?_
  have e3 : Blk h3 eb (setsA es (s * 3) (entV n (ad, di))) TE := e3
  have p3 := p2.only o3 (tag_ne a.tp a.te (by decide))
  have i3 := (a1.ix.only o2 (tag_ne a.ti a.tp (by decide))).only o3 (tag_ne a.ti a.te (by decide))
  have r3 := (a1.rk.only o2 (tag_ne a.tr a.tp (by decide))).only o3 (tag_ne a.tr a.te (by decide))
  have eu : IntKind.wrap .u32 (n : Int) = (n : Int) := by rw [wru32]; omega
  rw [eu]
  have hMn : M (n : Int) = none := by rw [d.key, Int.toNat_natCast, if_neg fun hh => hn hh.2]
  refine ld_of (c := .ptr) (some ⟨ib, 0, none⟩) (by rw [add_mk, cellH_blk p3]; rfl) (call_of (Ix.put_ok ib n s h3 M _ _ i3) ?_)
  rintro v h4 ⟨o4, ⟨_, rfl, i4⟩ | ⟨_, hbad, _⟩⟩
  rotate_left
  · omega
  rw [hMn] at i4
  have p4 := p3.only o4 (tag_ne a.tp a.ti (by decide))
  have r4 := r3.only o4 (tag_ne a.tr a.ti (by decide))
  refine ⟨true, rfl, br_t rfl (ld_of (c := .ptr) (some ⟨rb, 0, none⟩) (by rw [add_mk, cellH_blk p4]; rfl) (call_of (Lru.insert_ok rb s h4 S _ r4) ?_))⟩
  rintro v h5 ⟨rfl, r5, o5⟩
  have hins : insL S (mapL r c.B) (s : Int) = (true, upL (mapL r c.B) 0 (s :: mapL r c.B 0)) := by
    have hin : inI (mapL r c.B) (s : Int) = false := by
      unfold inI
      have : inL (mapL r c.B) s = false := by
        rw [← Bool.not_eq_true, ← mem_que, que_map]; exact hs.2
      simp [this]
    unfold insL
    rw [if_pos ⟨by omega, by omega, hin⟩, Int.toNat_natCast]
  rw [hins] at r5 ⊢
  rw [eg]
  refine ⟨true, rfl, rfl, t, ⟨rb, ib, eb, some ⟨g, 0, none⟩, fc, upR r n s, _, fr0, _, T, TE, ⟨a.own, p4.only o5 (tag_ne a.tp a.tr (by decide)), rk_same r5 rfl fun q hq => ?_, ?_, ?_, ?_, a.tp, a.tr, a.ti, a.te, fun g' hg' => ?_⟩, d.put hn (by omega) (ad, di) _ es3.1 es3.2.1 es3.2.2⟩, ?_⟩
  · rw [map_up]
    have e0 : ∀ q, q < 2 → mapL r c.B q = mapL (upR r n s) c.B q := fun q hq => (upR_map fun hm => hn (row_que hq hm)).symm
    show upL (mapL r c.B) 0 (s :: mapL r c.B 0) q = upL (mapL (upR r n s) c.B) 0 ((n :: c.B 0).map (upR r n s)) q
    unfold upL
    by_cases e : q = 0
    · rw [if_pos e, if_pos e, List.map_cons, e0 0 (by decide)]
      show s :: _ = upR r n s n :: _
      rw [show upR r n s n = s from if_pos rfl]; rfl
    · rw [if_neg e, if_neg e]; exact e0 q hq
  · have i5 := i4.only o5 (tag_ne a.ti a.tr (by decide))
    show Ix.IxOk h5 ib _ (que (upL c.B 0 (n :: c.B 0))).length _
    rw [(up0_perm c.B n).length_eq, List.length_cons]; exact i5
  · exact (e3.only o4 (tag_ne a.te a.ti (by decide))).only o5 (tag_ne a.te a.tr (by decide))
  · refine ow.keep fun g' _ _ hg' e => ?_
    have tg := (a1.tf g' e).2
    rw [o5.same g' (tag_ne tg a.tr (by decide)), o4.same g' (tag_ne tg a.ti (by decide)), o3.same g' (tag_ne tg a.te (by decide)), o2.same g' (tag_ne tg a.tp (by decide))]
  · have := a1.tf g' hg'
    exact ⟨by rw [o5.size, o4.size, o3.size, o2.size]; exact this.1, this.2⟩
  · have nk : ∀ {b i}, t b = (k, i) → ¬ (t b).1 ≠ k := fun hb hh => hh (by rw [hb])
    exact ((((Fr.new0 n1).trans (Fr.upd o2.upd (nk a.tp))).trans (Fr.upd o3.upd (nk a.te))).trans (Fr.upd o4.upd (nk a.ti))).trans (Fr.upd o5.upd (nk a.tr))
end
end Go.Proofs.YtfanjfbenhocnaaGreatDoor.Ca
