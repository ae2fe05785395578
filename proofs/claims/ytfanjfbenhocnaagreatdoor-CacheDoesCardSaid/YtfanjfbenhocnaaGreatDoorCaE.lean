/-
  The contracts of package cache that go through all entries; and New.
-/
import Derived.Test.YtfanjfbenhocnaaGreatDoorCaW
import Derived.Test.YtfanjfbenhocnaaGreatDoorTail
namespace Go.Proofs.YtfanjfbenhocnaaGreatDoor.Ca
open Go.Pl Go.Pl.Lru Go.Pl.Ix Go.Proofs.YtfanjfbenhocnaaGreatDoor.W Go.Proofs.YtfanjfbenhocnaaGreatDoor.Lru Go.Proofs.YtfanjfbenhocnaaGreatDoor.IxS
theorem Tk_blk {n : Nat} {h h' : Heap} (t : Taken n h h') {b : Nat} {arr : Array Value} {T : TypeId} (hb : Blk h b arr T) : h'[b]? = h[b]? := by
  rcases t.same b with e | ⟨_, e, _⟩
  · exact e
  · have hb' : h[b]? = some (.cells arr T) := hb
    rw [e] at hb'; cases hb'
theorem Tk_low {n : Nat} {h h' : Heap} (t : Taken n h h') {b : Nat} (hb : b < n) : h'[b]? = h[b]? := by
  rcases t.same b with e | ⟨h1, _⟩
  · exact e
  · omega
theorem Tk_own {n : Nat} {h h' : Heap} (t : Taken n h h') {base m c size : Nat} {e : TypeId} {a : Option Addr} {xs : List Value} (o : OwnH h base e size a m c xs) : OwnH h' base e size a m c xs := o.keep fun _ _ _ hg _ => Tk_blk t hg
theorem each_ok (p : Nat) (h : Heap) :
    CallsH Tryz.prog 37 [ptr p] h fun v h' => v = .func (.func 57) #[] #[.pointer (some ⟨h.size, 0, none⟩)] ∧ Blk h' h.size #[ptr p] 24 ∧ New h h' ∧ h'.size = h.size + 1 := by
  refine fun_ok hm' Tryz.func37 (by kernel_rfl) (F37_eq _ _ h) ?_
  unfold F37
  exact new_of fun h1 b1 n1 s1 => ⟨rfl, b1, n1, s1⟩
/-- What the heap shows of a cache to one who goes through it. -/
structure Sees (h : Heap) (cap p ib eb S : Nat) (M : Int → Option Int) (n : Nat) : Prop where
  cap : cellH h ⟨cap, 0, none⟩ = some (ptr p)
  c1 : cellH h ((⟨p, 0, none⟩ : Addr).add 1) = some (ptr ib)
  c2 : cellH h ((⟨p, 0, none⟩ : Addr).add 2) = some (.slice (some ⟨eb, 0, none⟩) S S)
  ix : Ix.IxOk h ib M n (S : Int)
theorem range_each {Inner : Nat → LoopO → TT [.sc .ptr] → (Bool → Heap → Prop) → Heap → Prop} {E : Nat → LoopO → Heap → Prop} {h : Heap} {cap p ib eb S n : Nat} {M : Int → Option Int} {bs : List Nat} {sl : Nat → Nat}
    (J : Heap → Nat → List Nat → Heap → Prop)
    (j0 : ∀ hq l, New h hq → h.size ≤ l → l < hq.size → J hq l [] hq)
    (jo : ∀ hq l pre h1 h2, J hq l pre h1 → Only l h1 h2 → J hq l pre h2)
    (jn : ∀ hq l pre h1 h2, J hq l pre h1 → New h1 h2 → J hq l pre h2)
    (js : ∀ hq l pre h1, J hq l pre h1 → hq.size ≤ h1.size ∧ ∀ b, h.size ≤ b → b < hq.size → b ≠ l → h1[b]? = hq[b]?)
    (jc : ∀ hq l pre h1, J hq l pre h1 → Sees h1 cap p ib eb S M n)
    (hb : ∀ x ∈ bs, M (x : Int) = some (sl x : Int) ∧ sl x < S) (hK : Keys M n (nI bs)) (hl : bs.length ≤ 64)
    (hI : ∀ hq l o Y pre x post h1, bs = pre ++ x :: post → J hq l pre h1 → (∀ h2, J hq l (pre ++ [x]) h2 → roundEnd l (LoopO.rdy o) (Y true) h2) → Inner l o (some ⟨eb, sl x * 3, none⟩) Y h1)
    (hE : ∀ hq l o h3, (∀ N : Heap → Prop, (∀ h4, J hq l bs h4 → N h4) → roundDone l (LoopO.rdy o) N h3) → E l o h3) :
    rangeW Tryz.prog 57 [] [.pointer (some ⟨cap, 0, none⟩)] [.sc .ptr] (fun l o s Y h1 => roundIn l o (Inner l o s Y) h1) E h := by
  rintro l o ho hl0 hy
  have nb : New h ((h.push (.deferred (some []))).push o.rdy) := (New.push _ _).trans (New.push _ _)
  have hrdy : ((h.push (.deferred (some []))).push o.rdy)[h.size + 1]? = some o.rdy := by rw [Array.getElem?_push, if_pos (by simp)]
  have hsz : ((h.push (.deferred (some []))).push o.rdy).size = h.size + 2 := by simp
  rw [← hl0] at hrdy
  generalize (h.push (.deferred (some []))).push o.rdy = hb0 at *
  refine fun_ok hm' Tryz.func57 (by kernel_rfl) (F57_eq _ _ _ hb0) ?_
  unfold F57
  have s0 := jc _ _ _ _ (j0 hb0 l nb (by omega) (by omega))
  refine ld_of (c := .ptr) (some ⟨p, 0, none⟩) s0.cap (ptr_of (ld_of (c := .ptr) (some ⟨ib, 0, none⟩) s0.c1 (call_of (keysN_ok ib hb0 M _ _ s0.ix) ?_)))
  rintro v h1 ⟨a, c, L, rfl, ar, kk, n1, hnew⟩
  obtain rfl := kk.one hK
  have hlen : (nI bs).length = bs.length := List.length_map ..
  have hs1 := n1.size
  have r1 : h1[l]? = some o.rdy := (n1.same l (by omega)).trans hrdy
  refine ⟨(a, (nI bs).length, c), rfl, ?_⟩
  refine ⟨fun (s : Int) h' => ∃ i : Nat, s = i ∧ i ≤ bs.length ∧ J h1 l (bs.take i) h' ∧ h'[l]? = some o.rdy, fun (s : Int) _ => ((bs.length : Int) - s).toNat, ⟨0, rfl, Nat.zero_le _, j0 h1 l (nb.trans n1) (by omega) (by omega), r1⟩, ?_⟩
  rintro s j h2 ⟨i, rfl, hi, J2, r2⟩
  refine br_of (fun hlt => ?_) (fun hlt => ?_)
  · have hlt : (i : Int) < ((nI bs).length : Int) := of_decide_eq_true hlt
    have hiL : i < bs.length := by omega
    obtain ⟨sz, sm⟩ := js _ _ _ _ J2
    have ar2 : Ar .u32 h2 a (nI bs) := fun m x hx => by
      obtain ⟨b, q, e, hp, hc⟩ := ar m x hx
      have hge := hnew (fun e => by rw [e] at hx; simp at hx) b (by rw [e]; rfl)
      exact ⟨b, q, e, by omega, by rw [cellH_same (sm b (by omega) hp (by omega))]; exact hc⟩
    refine ix_ld ar2 (show i < (nI bs).length by omega) (show i < (nI bs).length by omega) ?_
    have eg : (nI bs)[i]'(by omega) = ((bs[i] : Nat) : Int) := by simp [nI]
    rw [eg]
    obtain ⟨hM, hlt2⟩ := hb bs[i] (List.getElem_mem hiL)
    have s2 := jc _ _ _ _ J2
    refine ld_of (c := .ptr) (some ⟨p, 0, none⟩) s2.cap (ptr_of (ld_of (c := .ptr) (some ⟨ib, 0, none⟩) s2.c1 (call_of (Ix.get_ok ib _ h2 M _ _ s2.ix) ?_)))
    rintro v h3 ⟨rfl, n3⟩
    rw [hM]
    have J3 := jn _ _ _ _ _ J2 n3
    have s3 := jc _ _ _ _ J3
    have r3 : h3[l]? = some o.rdy := (n3.same l (by omega)).trans r2
    refine ⟨((sl bs[i] : Int), true), rfl, ld_of (c := .ptr) (some ⟨p, 0, none⟩) s3.cap (ptr_of (ld_of (c := .slice) (some ⟨eb, 0, none⟩, S, S) s3.c2 (ptr_of ⟨⟨(by first | omega | (dsimp only; omega) | (simp only []; omega)), rfl⟩, ?_⟩)))⟩
    rw [Int.toNat_natCast, add_mk, Nat.zero_add]
    have hsplit : bs = bs.take i ++ bs[i] :: bs.drop (i + 1) := by rw [← List.drop_eq_getElem_cons hiL, List.take_append_drop]
    have ez : IntKind.wrap .i64 ((i : Int) + 1) = ((i + 1 : Nat) : Int) := (by first | (rw [wr64 (by omega) (by omega)]; omega) | (simp only [IntKind.wrap_i64]; omega))
    have hY := hy (some ⟨eb, sl bs[i] * 3, none⟩) h3 (fun t h' => t = true ∧ J h1 l (bs.take (i + 1)) h' ∧ h'[l]? = some o.rdy) r3 ⟨r3, fun h4 o4 _ => hI h1 l o _ (bs.take i) bs[i] (bs.drop (i + 1)) h4 hsplit (jo _ _ _ _ _ J3 o4) fun h5 J5 h6 o6 r6 => ⟨rfl, by rw [← List.take_append_getElem hiL]; exact jo _ _ _ _ _ J5 o6, r6⟩⟩
    refine Lru.yield_of hY ?_
    rintro t h4 ⟨rfl, J4, r4⟩
    refine ⟨true, rfl, br_f rfl ?_⟩
    rw [ez]
    exact ⟨⟨i + 1, rfl, hiL, J4, r4⟩, (by first | omega | (dsimp only; omega) | (simp only []; omega))⟩
  · have hlt : ¬ (i : Int) < ((nI bs).length : Int) := of_decide_eq_false hlt
    have : i = bs.length := by omega
    subst this
    rw [List.take_length] at J2
    exact hE h1 l o h2 fun N hN => ⟨r2, fun h4 o4 => hN h4 (jo _ _ _ _ _ J2 o4)⟩
section
variable {k S p rb ib eb fc : Nat} {t t' : Tags} {h h' : Heap} {fa : Option Addr} {c : Cm} {r : Nat → Nat} {M : Int → Option Int} {fr : List Nat} {es : Array Value} {T TE : TypeId}
theorem CD.keys (d : CD S c r M fr es) : Keys M (que c.B).length (nI (blocks c)) := by
  have hnd : (nI (blocks c)).Nodup := by
    unfold nI
    rw [List.nodup_iff_pairwise_ne, List.pairwise_map]
    exact (blocks_up c).imp fun {a b} hab => by omega
  refine ⟨?_, hnd, fun x => ?_, ?_⟩
  · unfold nI
    rw [List.pairwise_map]
    exact (blocks_up c).imp fun {a b} hab => by omega
  · rw [d.key]
    unfold nI
    rw [List.mem_map]
    constructor
    · rintro ⟨n, hn, rfl⟩
      rw [if_pos ⟨by omega, by rw [Int.toNat_natCast]; exact (mem_blocks d.inv n).1 hn⟩]; rfl
    · intro hh
      by_cases h0 : 0 ≤ x ∧ x.toNat ∈ que c.B
      · exact ⟨x.toNat, (mem_blocks d.inv _).2 h0.2, by omega⟩
      · rw [if_neg h0] at hh; cases hh
  · unfold nI
    rw [List.length_map]; exact blocks_len d.inv
theorem CD.bs (d : CD S c r M fr es) : ∀ x ∈ blocks c, M (x : Int) = some (r x : Int) ∧ r x < S := fun x hx => by
  have := (mem_blocks d.inv x).1 hx
  exact ⟨by rw [d.key, Int.toNat_natCast, if_pos ⟨by omega, this⟩], d.lt x this⟩
theorem CD.bl (d : CD S c r M fr es) : (blocks c).length ≤ 64 := by rw [blocks_len d.inv]; have := d.inv.len; have := d.inv.le; omega
theorem CH.sees (a : CH k t h p rb ib eb fa fc S c r M fr es T TE) {cap : Nat} {TC : TypeId} (hc : Blk h cap #[ptr p] TC) : Sees h cap p ib eb S M (que c.B).length :=
  ⟨by rw [cellH_blk hc]; rfl, a.c1, a.c2, a.ix⟩
theorem CD.E_ev (d : CD S c r M fr es) {n : Nat} (hn : n ∈ blocks c) : c.E n = some (ev c n).2 := by
  obtain ⟨e, he⟩ := Option.isSome_iff_exists.1 ((d.inv.mem n).1 ((mem_blocks d.inv n).1 hn))
  unfold ev; rw [he]; rfl
theorem CH.entry (a : CH k t h p rb ib eb fa fc S c r M fr es T TE) (d : CD S c r M fr es) {n : Nat} (hn : n ∈ blocks c) (j : Nat) (hj : j < 3) : cellH h ⟨eb, r n * 3 + j, none⟩ = (entV n (ev c n).2)[j]? := a.ent d (d.E_ev hn) j hj
abbrev TEn : TypeId := 60
theorem apE : apB Tryz.prog 44 TEn 3 16 = true := by kernel_rfl
def encs (l : List En) : List Value := (l.map fun z => entV z.1 z.2).flatten
theorem encs_app (l : List En) (z : En) : encs (l ++ [z]) = encs l ++ entV z.1 z.2 := by simp [encs]
theorem encs_len (l : List En) : (encs l).length = l.length * 3 := by
  induction l with
  | nil => rfl
  | cons z l ih =>
    have : encs (z :: l) = entV z.1 z.2 ++ encs l := rfl
    rw [this, List.length_append, ih, List.length_cons, show (entV z.1 z.2).length = 3 from rfl]; omega
/-- An entry more, in a list that was begun at 'base'. -/
theorem ent_push {base n lc : Nat} {la : Option Addr} {l : List En} {h : Heap} {e : Int × Bool} (ow : OwnH h base TEn 3 la l.length lc (encs l)) (hl : l.length ≤ 1000) (hbase : base ≤ h.size) {F : Option Addr → Nat → Nat → Heap → Prop}
    (hF : ∀ a' c' h', OwnH h' base TEn 3 a' (l ++ [(n, e)]).length c' (encs (l ++ [(n, e)])) → UpdO (blkOf la) h h' → F a' (l ++ [(n, e)]).length c' h') :
    newW (.cells #[.int .i64 n, .int .u32 e.1, .bool e.2] TEn) (fun q h' => apW Tryz.prog #[44, 44] #[.slice la l.length lc, .slice (some q) 1 1] F h') h := by
  refine new_of fun h1 b1 n1 s1 => ?_
  have ow1 : OwnH h1 base TEn 3 la l.length lc (encs l) := ow.keep fun g _ _ hg _ => n1.same g hg.lt
  refine ap_own apE (by decide) ow1 (entV n e) rfl (fun j u hu => ?_) (fun u hu => ?_) (by simp only [maxLen]; omega) (by omega) (by omega) fun a' c' h2 o2 u2 => ?_
  · rw [add_mk, cellH_blk b1, Nat.zero_add]
    have hj : j < 3 := (List.getElem?_eq_some_iff.1 hu).1
    have hj' : j = 0 ∨ j = 1 ∨ j = 2 := by omega
    rcases hj' with rfl | rfl | rfl <;> exact hu
  · unfold entV at hu
    simp only [List.mem_cons, List.not_mem_nil, or_false] at hu
    rcases hu with rfl | rfl | rfl <;> rfl
  · have el : (l ++ [(n, e)]).length = l.length + 1 := by simp
    rw [← el] at o2 ⊢
    rw [← encs_app l (n, e)] at o2
    exact hF a' c' h2 o2 ⟨Nat.le_trans n1.size u2.size, fun b hb hne => (u2.same b (Nat.lt_of_lt_of_le hb n1.size) hne).trans (n1.same b hb)⟩
/-- Going through all entries, with a list in the variable B. -/
structure JL (B : Nat) (TL TE : TypeId) (size : Nat) (len : List Nat → Nat) (vs : List Nat → List Value) (hq : Heap) (l : Nat) (pre : List Nat) (h' : Heap) : Prop where
  sizes : hq.size ≤ h'.size
  same : ∀ b, b < hq.size → b ≠ B → b ≠ l → h'[b]? = hq[b]?
  var : ∃ a lc, Blk h' B #[.slice a (len pre) lc] TL ∧ OwnH h' hq.size TE size a (len pre) lc (vs pre)
  lB : B < l
  lq : l < hq.size
theorem JL.only {B l size : Nat} {TL TE : TypeId} {len : List Nat → Nat} {vs : List Nat → List Value} {hq h1 h2 : Heap} {pre : List Nat} (j : JL B TL TE size len vs hq l pre h1) (o : Only l h1 h2) : JL B TL TE size len vs hq l pre h2 := by
  obtain ⟨a, lc, hb, ow⟩ := j.var
  have hl := j.lB
  have hq := j.lq
  exact ⟨by rw [o.size]; exact j.sizes, fun b hb h1 h2 => (o.same b h2).trans (j.same b hb h1 h2), ⟨a, lc, hb.only o (by omega), ow.keep fun g _ hg _ _ => o.same g (by omega)⟩, hl, hq⟩
theorem JL.new {B l size : Nat} {TL TE : TypeId} {len : List Nat → Nat} {vs : List Nat → List Value} {hq h1 h2 : Heap} {pre : List Nat} (j : JL B TL TE size len vs hq l pre h1) (o : New h1 h2) : JL B TL TE size len vs hq l pre h2 := by
  obtain ⟨a, lc, hb, ow⟩ := j.var
  have hs := j.sizes
  exact ⟨Nat.le_trans hs o.size, fun b hb h1 h2 => (o.same b (by omega)).trans (j.same b hb h1 h2), ⟨a, lc, hb.new o, ow.keep fun g _ _ hg _ => o.same g hg.lt⟩, j.lB, j.lq⟩
/-- One that saw the cache sees it still. -/
theorem CH.jl {B l size : Nat} {TL TE' : TypeId} {len : List Nat → Nat} {vs : List Nat → List Value} {hq h1 : Heap} {pre : List Nat} (a : CH k t h p rb ib eb fa fc S c r M fr es T TE) (n : New h hq) (j : JL B TL TE' size len vs hq l pre h1) (hB : h.size ≤ B) : CH k (fun b => if b < h.size then t b else (0, 0)) h1 p rb ib eb fa fc S c r M fr es T TE := by
  have hl := j.lB
  refine a.fr' (Q := fun _ => True) ⟨Nat.le_trans n.size j.sizes, fun b hb => if_pos hb, fun b hb _ => (j.same b (Nat.lt_of_lt_of_le hb n.size) (by omega) (by omega)).trans (n.same b hb)⟩ fun _ => trivial
theorem JL.stay {B l size : Nat} {TL TE : TypeId} {len : List Nat → Nat} {vs : List Nat → List Value} {hq h1 : Heap} {pre : List Nat} {x : Nat} (j : JL B TL TE size len vs hq l pre h1) (hl : len (pre ++ [x]) = len pre) (hv : vs (pre ++ [x]) = vs pre) : JL B TL TE size len vs hq l (pre ++ [x]) h1 := by
  refine ⟨j.sizes, j.same, ?_, j.lB, j.lq⟩
  rw [hl, hv]; exact j.var
/-- The list has grown, and is stored. -/
theorem JL.grown {B l size n' : Nat} {TL TE : TypeId} {len : List Nat → Nat} {vs : List Nat → List Value} {hq h1 h2 : Heap} {pre : List Nat} {x : Nat} {a a' : Option Addr} {lc c' : Nat} {F : Heap → Prop} (j : JL B TL TE size len vs hq l pre h1) (hb : Blk h1 B #[.slice a (len pre) lc] TL) (ow : OwnH h1 hq.size TE size a (len pre) lc (vs pre))
    (u : UpdO (blkOf a) h1 h2) (hl : len (pre ++ [x]) = n') (o2 : OwnH h2 hq.size TE size a' n' c' (vs (pre ++ [x]))) (hF : ∀ h3, JL B TL TE size len vs hq l (pre ++ [x]) h3 → F h3) : stW ⟨B, 0, none⟩ (.slice a' n' c') F h2 := by
  subst hl
  have hBl := j.lB
  have hlq := j.lq
  have hs := j.sizes
  have hga : ∀ g, blkOf a = some g → hq.size ≤ g := fun g hg => by
    rcases ow.row.2 with ⟨rfl, _⟩ | ⟨g', cur, rfl, hg', _⟩
    · cases hg
    · injection hg with hg; change g' = g at hg; omega
  have b2 : Blk h2 B #[.slice a (len pre) lc] TL := (u.same B hb.lt (fun e => by have := hga B e.symm; omega)).trans hb
  refine st_blk b2 (by simp) fun h3 b3 o3 => hF h3 ⟨by rw [o3.size]; have := u.size; omega, fun b hb h1 h2 => ?_, ⟨a', c', b3, o2.keep fun g _ hg _ _ => o3.same g (by omega)⟩, hBl, hlq⟩
  rw [o3.same b h1, u.same b (by omega) (fun e => by have := hga b e.symm; omega), j.same b hb h1 h2]
abbrev T59 : TypeId := 24
theorem zL : zeroC Tryz.prog 44 = #[.slice none 0 0] := by kernel_rfl
theorem zI : zeroC Tryz.prog 45 = #[.slice none 0 0] := by kernel_rfl
theorem zN : zeroC Tryz.prog TI = #[.int .i64 0] := by kernel_rfl
theorem table_ok (n : Nat) (h : Heap) (hn : n < 64) : CallsH Tryz.prog 38 [.int .i64 n] h fun v h' => v = .tuple #[.int .i64 ((n / 4 : Nat) : Int), .int .i64 ((n % 4 : Nat) : Int)] ∧ h' = h := by
  refine fun_ok hm' Tryz.func38 (by kernel_rfl) (F38_eq _ _ h) ?_
  unfold F38
  have e : Int.tdiv (n : Int) 4 = ((n / 4 : Nat) : Int) := tdiv_nat (i := n) (k := 4)
  have e2 : Int.tmod (n : Int) 4 = ((n % 4 : Nat) : Int) := tmod_nat (i := n) (k := 4)
  rw [e, e2, wr64 (by omega) (by omega)]
  exact ⟨rfl, rfl⟩
theorem index_ok (h : Heap) (a : Option Addr) (c : Nat) (xs : List Int) (v : Int) (hl : xs.length ≤ 1000000) (ar : Ar .i64 h a xs) :
    CallsH Tryz.prog 60 [.slice a xs.length c, .int .i64 v] h fun w h' => ∃ i : Int, w = .int .i64 i ∧ (0 ≤ i ↔ v ∈ xs) ∧ h' = h := by
  refine fun_ok hm' Tryz.func60 (by kernel_rfl) (F60_eq _ _ _ _ _ h) ?_
  unfold F60
  refine ⟨fun (s : Int) h' => h' = h ∧ ∃ i : Nat, s = i ∧ i ≤ xs.length ∧ v ∉ xs.take i, fun (s : Int) _ => ((xs.length : Int) - s).toNat, ⟨rfl, 0, rfl, Nat.zero_le _, by simp⟩, ?_⟩
  rintro s j h' ⟨hh, i, rfl, hi, hno⟩; subst h'
  refine br_of (fun hlt => ?_) (fun hlt => ?_)
  · have hlt : (i : Int) < (xs.length : Int) := of_decide_eq_true hlt
    have hiL : i < xs.length := by omega
    refine ix_ld ar hiL hiL (br_of (fun he => ⟨_, rfl, ?_, rfl⟩) fun he => ⟨⟨rfl, i + 1, (by first | (rw [wr64 (by omega) (by omega)]; omega) | (simp only [IntKind.wrap_i64]; omega)), hiL, ?_⟩, (by dsimp only; first | (rw [wr64 (by omega) (by omega)]; omega) | (rw [wr64 (by omega) (by omega), wr64 (by omega) (by omega)]; omega) | (simp only [IntKind.wrap_i64]; omega))⟩)
    · have he : v = xs[i] := by simpa using he
      exact ⟨fun _ => he ▸ List.getElem_mem hiL, fun _ => by omega⟩
    · have he : ¬ v = xs[i] := by simpa using he
      rw [← List.take_append_getElem hiL, List.mem_append, List.mem_singleton]
      rintro (e | e)
      · exact hno e
      · exact he e
  · have hlt : ¬ (i : Int) < (xs.length : Int) := of_decide_eq_false hlt
    have : i = xs.length := by omega
    subst this
    rw [List.take_length] at hno
    exact ⟨_, rfl, ⟨fun h => by omega, fun h => (hno h).elim⟩, rfl⟩
theorem contains_ok (h : Heap) (a : Option Addr) (c : Nat) (xs : List Int) (v : Int) (hl : xs.length ≤ 1000000) (ar : Ar .i64 h a xs) :
    CallsH Tryz.prog 39 [.slice a xs.length c, .int .i64 v] h fun w h' => w = .bool (decide (v ∈ xs)) ∧ h' = h := by
  refine fun_ok hm' Tryz.func39 (by kernel_rfl) (F39_eq _ _ _ _ _ h) ?_
  unfold F39
  refine call_of (index_ok h a c xs v hl ar) ?_
  rintro w h' ⟨i, rfl, hi, hh⟩; subst h'
  refine ⟨i, rfl, ?_, rfl⟩
  congr 1
  rw [decide_eq_decide]
  exact hi
/-- What a list of entries is, when a call answers it. -/
def EntsAt (h h' : Heap) (v : Value) (L : List En) : Prop := ∃ a lc, v = .slice a L.length lc ∧ OwnH h' h.size TEn 3 a L.length lc (encs L)
theorem ent_ld {x : Nat} (a : CH k t h p rb ib eb fa fc S c r M fr es T TE) (d : CD S c r M fr es) (hx : x ∈ blocks c) {F : Int × Int × Bool → Prop} (hF : F (x, (ev c x).2.1, (ev c x).2.2)) : ldAggW [.int .i64, .int .u32, .bool] ⟨eb, r x * 3, none⟩ F h :=
  ⟨((x, (ev c x).2.1, (ev c x).2.2) : Int × Int × Bool), ⟨by rw [add_mk]; exact a.entry d hx 0 (by decide), by rw [add_mk]; exact a.entry d hx 1 (by decide), by rw [add_mk]; exact a.entry d hx 2 (by decide), trivial⟩, hF⟩
theorem all_ok (a : CRep k t h p S c) : CallsH Tryz.prog 13 [ptr p] h fun v h' => EntsAt h h' v (allC c) ∧ New h h' := by
  obtain ⟨rb, ib, eb, fa, fc, r, M, fr, es, T, TE, a, d⟩ := a
  refine fun_ok hm' Tryz.func13 (by kernel_rfl) (F13_eq _ _ h) ?_
  unfold F13
  rw [zL]
  refine new_of fun h1 b1 n1 s1 => call_of (each_ok p h1) ?_
  rintro v h2 ⟨rfl, b2, n2, s2⟩
  refine ⟨_, rfl, ?_⟩
  have hbl := d.bl
  refine range_each (p := p) (ib := ib) (eb := eb) (S := S) (n := (que c.B).length) (M := M) (bs := blocks c) (sl := r) (cap := h1.size)
    (fun hq l pre h3 => JL h.size 44 TEn 3 (fun pre => (pre.map (ev c)).length) (fun pre => encs (pre.map (ev c))) hq l pre h3 ∧ New h2 hq ∧ h2.size ≤ l)
    (fun hq l nq h3 h4 => ⟨⟨Nat.le_refl _, fun _ _ _ _ => rfl, ⟨none, 0, (b1.new n2).new nq, OwnH.nil _ _ _ _⟩, by omega, h4⟩, nq, h3⟩)
    (fun hq l pre h3 h4 j o => ⟨j.1.only o, j.2⟩) (fun hq l pre h3 h4 j o => ⟨j.1.new o, j.2⟩)
    (fun hq l pre h3 j => ⟨j.1.sizes, fun b h4 h5 h6 => j.1.same b h5 (by omega) h6⟩)
    (fun hq l pre h3 j => (CH.jl a ((n1.trans n2).trans j.2.1) j.1 (Nat.le_refl _)).sees (TC := T59) ((j.1.same h1.size (by have := j.2.1.size; omega) (by omega) (by have := j.2.2; omega)).trans (b2.new j.2.1))) d.bs d.keys hbl ?_ ?_
  · rintro hq l o Y pre x post h3 hbs ⟨j, nq, hl⟩ hend
    have a3 := CH.jl a ((n1.trans n2).trans nq) j (Nat.le_refl _)
    have hx : x ∈ blocks c := by rw [hbs]; simp
    have hpl : (pre.map (ev c)).length ≤ 64 := by rw [hbs] at hbl; simp at hbl ⊢; omega
    obtain ⟨la, lc, hb, ow⟩ := j.var
    refine ld_of (c := .slice) (la, (pre.map (ev c)).length, lc) (by rw [cellH_blk hb]; rfl) (ptr_of (ent_ld a3 d hx ?_))
    refine ent_push (n := x) (e := (ev c x).2) ow (by omega) j.sizes fun a' c' h4 o4 u4 => ?_
    exact j.grown (x := x) hb ow u4 (by rw [List.map_append]; rfl) (by rw [List.map_append]; exact o4) fun h5 j5 => hend h5 ⟨j5, nq, hl⟩
  · intro hq l o h3 hE
    refine .inl (hE _ fun h4 ⟨j, nq, hl⟩ => ?_)
    obtain ⟨la, lc, hb, ow⟩ := j.var
    refine ld_of (c := .slice) (la, ((blocks c).map (ev c)).length, lc) (by rw [cellH_blk hb]; rfl) ?_
    intro h5 t5
    have hs := j.sizes
    have hq2 := nq.size
    refine ⟨⟨la, lc, rfl, (Tk_own t5 ow).low (by omega)⟩, ⟨by rw [t5.size]; omega, fun b hb => ?_⟩⟩
    rw [Tk_low t5 hb, j.same b (by omega) (by omega) (by omega), nq.same b (by omega), n2.same b (by omega), n1.same b hb]
theorem ev_dirt {x : Nat} {tb : Int} (l : List Nat) : ((l ++ [x]).map (ev c)).filter (fun (z : En) => dirt tb z.1 z.2) = (l.map (ev c)).filter (fun (z : En) => dirt tb z.1 z.2) ++ if dirt tb x (ev c x).2 = true then [ev c x] else [] := by
  rw [List.map_append, List.filter_append]
  congr 1
  show List.filter _ [ev c x] = _
  by_cases h : dirt tb x (ev c x).2 = true
  · rw [if_pos h, List.filter_cons_of_pos (by exact h), List.filter_nil]
  · rw [if_neg h, List.filter_cons_of_neg (by exact h), List.filter_nil]
theorem fl_le (l : List Nat) (tb : Int) : ((l.map (ev c)).filter (fun (z : En) => dirt tb z.1 z.2)).length ≤ l.length := by
  refine Nat.le_trans (List.length_filter_le _ _) ?_
  simp
theorem dirty_ok (tb : Int) (a : CRep k t h p S c) : CallsH Tryz.prog 14 [ptr p, .int .i64 tb] h fun v h' => EntsAt h h' v (dirtyC c tb) ∧ New h h' := by
  obtain ⟨rb, ib, eb, fa, fc, r, M, fr, es, T, TE, a, d⟩ := a
  refine fun_ok hm' Tryz.func14 (by kernel_rfl) (F14_eq _ _ _ h) ?_
  unfold F14
  rw [zL]
  refine new_of fun h0 b0 n0 s0 => new_of fun h1 b1 n1 s1 => call_of (each_ok p h1) ?_
  rintro v h2 ⟨rfl, b2, n2, s2⟩
  refine ⟨_, rfl, ?_⟩
  have hbl := d.bl
  have a0 := a.new n0
  refine range_each (p := p) (ib := ib) (eb := eb) (S := S) (n := (que c.B).length) (M := M) (bs := blocks c) (sl := r) (cap := h1.size)
    (fun hq l pre h3 => JL h0.size 44 TEn 3 (fun pre => ((pre.map (ev c)).filter fun (z : En) => dirt tb z.1 z.2).length) (fun pre => encs ((pre.map (ev c)).filter fun (z : En) => dirt tb z.1 z.2)) hq l pre h3 ∧ New h2 hq ∧ h2.size ≤ l)
    (fun hq l nq h3 h4 => ⟨⟨Nat.le_refl _, fun _ _ _ _ => rfl, ⟨none, 0, (b1.new n2).new nq, OwnH.nil _ _ _ _⟩, by omega, h4⟩, nq, h3⟩)
    (fun hq l pre h3 h4 j o => ⟨j.1.only o, j.2⟩) (fun hq l pre h3 h4 j o => ⟨j.1.new o, j.2⟩)
    (fun hq l pre h3 j => ⟨j.1.sizes, fun b h4 h5 h6 => j.1.same b h5 (by omega) h6⟩)
    (fun hq l pre h3 j => (CH.jl a0 ((n1.trans n2).trans j.2.1) j.1 (Nat.le_refl _)).sees (TC := T59) ((j.1.same h1.size (by have := j.2.1.size; omega) (by omega) (by have := j.2.2; omega)).trans (b2.new j.2.1))) d.bs d.keys hbl ?_ ?_
  · rintro hq l o Y pre x post h3 hbs ⟨j, nq, hl⟩ hend
    have a3 := CH.jl a0 ((n1.trans n2).trans nq) j (Nat.le_refl _)
    have hx : x ∈ blocks c := by rw [hbs]; simp
    have h64 := d.inv.lt x ((mem_blocks d.inv x).1 hx)
    have hpl : pre.length ≤ 64 := by rw [hbs] at hbl; simp at hbl; omega
    have hfl := fl_le (c := c) pre tb
    have hq2 := nq.size
    have hb0 : Blk h3 h.size #[.int .i64 tb] TI := (j.same h.size (by omega) (by omega) (by omega)).trans (((b0.new n1).new n2).new nq)
    have he0 := a3.entry d hx 0 (by decide)
    refine ptr_of (ld_of (c := .int .i64) (x : Int) (by rw [add_mk]; exact he0) (call_of (table_ok x h3 h64) ?_))
    rintro v h' ⟨rfl, hh⟩; subst h'
    refine ⟨(((x / 4 : Nat) : Int), ((x % 4 : Nat) : Int)), rfl, cut_q (ts := [.sc .bool]) (fun (s : Bool) h' => h' = h3 ∧ s = dirt tb x (ev c x).2) ?_ ?_⟩
    rotate_left
    · intro K hK
      refine ptr_of (ld_of (c := .bool) (ev c x).2.2 (by rw [add_mk]; exact a3.entry d hx 2 (by decide)) (br_of (fun hd => ld_of (c := .int .i64) tb (by rw [cellH_blk hb0]; rfl) (hK _ _ ⟨rfl, ?_⟩)) fun hd => hK _ _ ⟨rfl, ?_⟩))
      · unfold dirt
        rw [hd, Bool.true_and]; rfl
      · unfold dirt
        rw [hd, Bool.false_and]
    rintro s h' ⟨hh, hs⟩ _; subst h'
    have hs : s = dirt tb x (ev c x).2 := hs
    subst hs
    obtain ⟨la, lc, hb, ow⟩ := j.var
    have hev := ev_dirt (c := c) (x := x) (tb := tb) pre
    refine br_of (fun hd => ?_) (fun hd => hend h3 ⟨j.stay (by rw [hev, if_neg (by rw [hd]; simp), List.append_nil]) (by rw [hev, if_neg (by rw [hd]; simp), List.append_nil]), nq, hl⟩)
    rw [if_pos hd] at hev
    refine ld_of (c := .slice) (la, ((pre.map (ev c)).filter fun (z : En) => dirt tb z.1 z.2).length, lc) (by rw [cellH_blk hb]; rfl) (ptr_of (ent_ld a3 d hx ?_))
    refine ent_push (n := x) (e := (ev c x).2) ow (by omega) j.sizes fun a' c' h4 o4 u4 => ?_
    exact j.grown (x := x) hb ow u4 (by rw [hev]; rfl) (by rw [hev]; exact o4) fun h5 j5 => hend h5 ⟨j5, nq, hl⟩
  · intro hq l o h3 hE
    refine .inl (hE _ fun h4 ⟨j, nq, hl⟩ => ?_)
    obtain ⟨la, lc, hb, ow⟩ := j.var
    refine ld_of (c := .slice) (la, (((blocks c).map (ev c)).filter fun (z : En) => dirt tb z.1 z.2).length, lc) (by rw [cellH_blk hb]; rfl) ?_
    intro h5 t5
    have hs := j.sizes
    have hq2 := nq.size
    refine ⟨⟨la, lc, rfl, (Tk_own t5 ow).low (by omega)⟩, ⟨by rw [t5.size]; omega, fun b hb => ?_⟩⟩
    rw [Tk_low t5 hb, j.same b (by omega) (by omega) (by omega), nq.same b (by omega), n2.same b (by omega), n1.same b (by omega), n0.same b hb]
/-- A number more. -/
theorem int_push {base lc x : Nat} {la : Option Addr} {l : List Nat} {h : Heap} (ow : OwnH h base TI 1 la l.length lc (nV l)) (hl : l.length ≤ 1000) (hbase : base ≤ h.size) {F : Option Addr → Nat → Nat → Heap → Prop}
    (hF : ∀ a' c' h', OwnH h' base TI 1 a' (l ++ [x]).length c' (nV (l ++ [x])) → UpdO (blkOf la) h h' → F a' (l ++ [x]).length c' h') :
    newW (.cells #[.int .i64 x] TI) (fun q h' => apW Tryz.prog #[45, 45] #[.slice la l.length lc, .slice (some q) 1 1] F h') h := by
  refine new_of fun h1 b1 n1 s1 => ?_
  have ow1 : OwnH h1 base TI 1 la l.length lc (nV l) := ow.keep fun g _ _ hg _ => n1.same g hg.lt
  refine ap_own apF (by decide) ow1 [.int .i64 x] rfl (fun j u hu => ?_) (fun u hu => by rw [List.mem_singleton.1 hu]; rfl) (by simp only [maxLen]; omega) (by omega) (by omega) fun a' c' h2 o2 u2 => ?_
  · have hj : j = 0 := by have := (List.getElem?_eq_some_iff.1 hu).1; simp at this; omega
    subst hj
    rw [add_mk, cellH_blk b1]; exact hu
  · have e : nV (l ++ [x]) = nV l ++ [.int .i64 x] := by simp
    have el : (l ++ [x]).length = l.length + 1 := by simp
    rw [← el, ← e] at o2
    rw [← el]
    exact hF a' c' h2 o2 ⟨Nat.le_trans n1.size u2.size, fun b hb hne => (u2.same b (Nat.lt_of_lt_of_le hb n1.size) hne).trans (n1.same b hb)⟩
theorem nV_eq (l : List Nat) : nV l = (nI l).map (Value.int .i64) := by simp [nI]
theorem fold_le (c : Cm) : ∀ (bs l : List Nat), (bs.foldl (addT c) l).length ≤ l.length + bs.length
  | [], l => by simp
  | n :: bs, l => by
    rw [List.foldl_cons]
    have := fold_le c bs (addT c l n)
    have h2 : (addT c l n).length ≤ l.length + 1 := by unfold addT; split <;> simp
    simp only [List.length_cons]; omega
theorem tables_ok (a : CRep k t h p S c) : CallsH Tryz.prog 17 [ptr p] h fun v h' => (∃ la lc, v = .slice la (tablesC c).length lc ∧ OwnH h' h.size TI 1 la (tablesC c).length lc (nV (tablesC c))) ∧ New h h' := by
  obtain ⟨rb, ib, eb, fa, fc, r, M, fr, es, T, TE, a, d⟩ := a
  refine fun_ok hm' Tryz.func17 (by kernel_rfl) (F17_eq _ _ h) ?_
  unfold F17
  rw [zI]
  refine new_of fun h1 b1 n1 s1 => call_of (each_ok p h1) ?_
  rintro v h2 ⟨rfl, b2, n2, s2⟩
  refine ⟨_, rfl, ?_⟩
  have hbl := d.bl
  refine range_each (p := p) (ib := ib) (eb := eb) (S := S) (n := (que c.B).length) (M := M) (bs := blocks c) (sl := r) (cap := h1.size)
    (fun hq l pre h3 => JL h.size 45 TI 1 (fun pre => (pre.foldl (addT c) []).length) (fun pre => nV (pre.foldl (addT c) [])) hq l pre h3 ∧ New h2 hq ∧ h2.size ≤ l)
    (fun hq l nq h3 h4 => ⟨⟨Nat.le_refl _, fun _ _ _ _ => rfl, ⟨none, 0, (b1.new n2).new nq, OwnH.nil _ _ _ _⟩, by omega, h4⟩, nq, h3⟩)
    (fun hq l pre h3 h4 j o => ⟨j.1.only o, j.2⟩) (fun hq l pre h3 h4 j o => ⟨j.1.new o, j.2⟩)
    (fun hq l pre h3 j => ⟨j.1.sizes, fun b h4 h5 h6 => j.1.same b h5 (by omega) h6⟩)
    (fun hq l pre h3 j => (CH.jl a ((n1.trans n2).trans j.2.1) j.1 (Nat.le_refl _)).sees (TC := T59) ((j.1.same h1.size (by have := j.2.1.size; omega) (by omega) (by have := j.2.2; omega)).trans (b2.new j.2.1))) d.bs d.keys hbl ?_ ?_
  · rintro hq l o Y pre x post h3 hbs ⟨j, nq, hl⟩ hend
    have a3 := CH.jl a ((n1.trans n2).trans nq) j (Nat.le_refl _)
    have hx : x ∈ blocks c := by rw [hbs]; simp
    have h64 := d.inv.lt x ((mem_blocks d.inv x).1 hx)
    have hpl : pre.length ≤ 64 := by rw [hbs] at hbl; simp at hbl; omega
    have hfl := fold_le c pre []
    simp only [List.length_nil, Nat.zero_add] at hfl
    have hf : (pre ++ [x]).foldl (addT c) [] = addT c (pre.foldl (addT c) []) x := by rw [List.foldl_append]; rfl
    obtain ⟨la, lc, hb, ow⟩ := j.var
    refine ptr_of (ld_of (c := .int .i64) (x : Int) (by rw [add_mk]; exact a3.entry d hx 0 (by decide)) (call_of (table_ok x h3 h64) ?_))
    rintro v h' ⟨rfl, hh⟩; subst h'
    have ld3 : ∀ {F : Option Addr × Nat × Nat → Prop}, F (la, (pre.foldl (addT c) []).length, lc) → ldW .slice ⟨h.size, 0, none⟩ F h3 := fun hF => ld_of (c := .slice) (la, (pre.foldl (addT c) []).length, lc) (by rw [cellH_blk hb]; rfl) hF
    have stay : ¬ (dirtyB c x = true ∧ x / 4 ∉ pre.foldl (addT c) []) → roundEnd l (LoopO.rdy o) (Y true) h3 := fun hn => by
      have e : addT c (pre.foldl (addT c) []) x = pre.foldl (addT c) [] := if_neg hn
      exact hend h3 ⟨j.stay (by rw [hf, e]) (by rw [hf, e]), nq, hl⟩
    refine ⟨(((x / 4 : Nat) : Int), ((x % 4 : Nat) : Int)), rfl, ptr_of (ld_of (c := .bool) (ev c x).2.2 (by rw [add_mk]; exact a3.entry d hx 2 (by decide)) (br_of (fun hd => ?_) fun hd => stay fun hh => ?_))⟩
    rotate_left
    · have h1 := hh.1
      unfold dirtyB at h1
      rw [hd] at h1; cases h1
    have har : Ar .i64 h3 la (nI (pre.foldl (addT c) [])) := Ar.own (n := (pre.foldl (addT c) []).length) (by have := ow; rw [nV_eq] at this; exact this)
    have hnl : (nI (pre.foldl (addT c) [])).length = (pre.foldl (addT c) []).length := List.length_map ..
    refine ld3 ?_
    have hco := contains_ok h3 la lc (nI (pre.foldl (addT c) [])) ((x / 4 : Nat) : Int) (by omega) har
    rw [hnl] at hco
    refine call_of hco ?_
    rintro v h' ⟨rfl, hh⟩; subst h'
    have hmem : (((x / 4 : Nat) : Int) ∈ nI (pre.foldl (addT c) [])) ↔ x / 4 ∈ pre.foldl (addT c) [] := by
      unfold nI
      rw [List.mem_map]
      exact ⟨fun ⟨m, hm, e⟩ => (by omega : m = x / 4) ▸ hm, fun hm => ⟨_, hm, rfl⟩⟩
    refine ⟨_, rfl, br_of (fun hc => ?_) fun hc => stay fun hh => ?_⟩
    rotate_left
    · have hc : ((x / 4 : Nat) : Int) ∈ nI (pre.foldl (addT c) []) := by simpa using hc
      exact hh.2 (hmem.1 hc)
    have hc : x / 4 ∉ pre.foldl (addT c) [] := fun hm => by
      rw [decide_eq_true (hmem.2 hm)] at hc; cases hc
    have e : addT c (pre.foldl (addT c) []) x = pre.foldl (addT c) [] ++ [x / 4] := if_pos ⟨hd, hc⟩
    refine ld3 (int_push (x := x / 4) ow (by omega) j.sizes fun a' c' h4 o4 u4 => ?_)
    exact j.grown (x := x) hb ow u4 (by rw [hf, e]) (by rw [hf, e]; exact o4) fun h5 j5 => hend h5 ⟨j5, nq, hl⟩
  · intro hq l o h3 hE
    refine .inl (hE _ fun h4 ⟨j, nq, hl⟩ => ?_)
    obtain ⟨la, lc, hb, ow⟩ := j.var
    refine ld_of (c := .slice) (la, ((blocks c).foldl (addT c) []).length, lc) (by rw [cellH_blk hb]; rfl) ?_
    intro h5 t5
    have hs := j.sizes
    have hq2 := nq.size
    rw [tables_fold] at ow ⊢
    refine ⟨⟨la, lc, rfl, (Tk_own t5 ow).low (by omega)⟩, ⟨by rw [t5.size]; omega, fun b hb => ?_⟩⟩
    rw [Tk_low t5 hb, j.same b (by omega) (by omega) (by omega), nq.same b (by omega), n2.same b (by omega), n1.same b hb]
end
end Go.Proofs.YtfanjfbenhocnaaGreatDoor.Ca
