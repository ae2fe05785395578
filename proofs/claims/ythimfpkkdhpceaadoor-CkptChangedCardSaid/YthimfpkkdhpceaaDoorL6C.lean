/-
  CkptChanged.
-/
import Derived.Test.YthimfpkkdhpceaaDoorL6B
import Derived.Test.YthimfpkkdhpceaaDoorCat
namespace Go.Proofs.YthimfpkkdhpceaaDoor.Ck
open Go.Pl Go.Proofs.YthimfpkkdhpceaaDoor.W Go.Proofs.YthimfpkkdhpceaaDoor.Byts Go.Proofs.YthimfpkkdhpceaaDoor.Four Go.Proofs.YthimfpkkdhpceaaDoor.Adl Go.Proofs.YthimfpkkdhpceaaDoor.Head Go.Proofs.YthimfpkkdhpceaaDoor.Geo Go.Proofs.YthimfpkkdhpceaaDoor.Rng Go.Proofs.YthimfpkkdhpceaaDoor.As
theorem part_at (g i : Nat) : sliceBase (some ⟨g, 0, none⟩) (16 * i) (16 * i + 16) 1 = some ⟨g, 16 * i, none⟩ := by
  unfold sliceBase
  rw [if_neg (by omega), Option.map_some, add_mk]
  simp
theorem RB.take {h : Heap} {a : Option Addr} {l : List (List Int)} (r : RB h a l) (n : Nat) : RB h a (l.take n) := fun i bs hi => by
  rw [List.getElem?_take] at hi
  split at hi
  · exact r i bs hi
  · cases hi
theorem chunks_set' {m i at_ : Nat} {B : List Int} {b : Int} {L : List (List Int)} (h16 : ∀ x ∈ L, x.length = 16) (hlen : L.length = m) (hfl : L.flatten = B) (hiL : i < L.length) (ha : at_ < 16) : chunks m (B.set (16 * i + at_) b) = L.set i (L[i].set at_ b) := by
  have h16' : ∀ x ∈ L.set i (L[i].set at_ b), x.length = 16 := fun x hx => by
    rcases List.mem_or_eq_of_mem_set hx with hx | hx
    · exact h16 x hx
    · rw [hx, List.length_set]; exact h16 _ (List.getElem_mem hiL)
  have := chunks_of _ h16'
  rw [List.length_set, flat_set L h16 i hiL at_ ha b, hfl, hlen] at this
  exact this
theorem chunks_set {m i at_ : Nat} {B : List Int} {b : Int} (hl : B.length = 16 * m) (hi : i < m) (ha : at_ < 16) : chunks m (B.set (16 * i + at_) b) = (chunks m B).set i (((chunks m B)[i]'(by rw [chunks_len]; exact hi)).set at_ b) :=
  chunks_set' (chunks_each hl) (chunks_len m B) (chunks_flat m B hl) (by rw [chunks_len]; exact hi) ha
/-- A row and what it leans on: where they lie. -/
theorem Lies.at_ {h0 h : Heap} {la : Option Addr} {m lc : Nat} {B : List Int} (l : Lies h0 h la m lc B) (hm : 0 < m) : ∃ g bb, la = some ⟨g, 0, none⟩ ∧ h0.size ≤ bb ∧
    (∀ i, i < m → cellH h ⟨g, i, none⟩ = some (.slice (some ⟨bb, 16 * i, none⟩) 16 16)) ∧ (∀ i (hi : i < B.length), cellH h ⟨bb, i, none⟩ = some (.int .u8 B[i])) ∧
    ∀ (j : Nat) (x : Int), j < B.length → 0 ≤ x ∧ x < 256 → ∀ F : Heap → Prop, (∀ h', Lies h0 h' la m lc (B.set j x) → Only bb h h' → F h') → stW ⟨bb, j, none⟩ (.int .u8 x) F h := by
  obtain ⟨ba, bc, o1, o2, hl, hB, hm2⟩ := l
  have hb0 : B[0]? = some (B[0]'(by omega)) := List.getElem?_eq_getElem (by omega)
  obtain ⟨bb, e2, hbb, _⟩ := o2.cell (j := 0) (u := .int .u8 (B[0]'(by omega))) (by rw [List.getElem?_map, hb0]; rfl)
  subst e2
  have hp : ∀ i, i < m → (partV (some ⟨bb, 0, none⟩) m)[i]? = some (.slice (some ⟨bb, 16 * i, none⟩) 16 16) := fun i hi => by
    unfold partV; rw [List.getElem?_map, List.getElem?_range hi, Option.map_some, part_at]
  obtain ⟨g, e1, hg, _⟩ := o1.cell (hp 0 hm)
  subst e1
  refine ⟨g, bb, rfl, hbb, fun i hi => ?_, fun i hi => ?_, fun j x hj hx F hF => ?_⟩
  · obtain ⟨g', e, _, hc⟩ := o1.cell (hp i hi)
    injection e with e; injection e with e
    rw [e]; exact hc
  · obtain ⟨b', e, _, hc⟩ := o2.cell (j := i) (u := .int .u8 B[i]) (by rw [List.getElem?_map, List.getElem?_eq_getElem hi]; rfl)
    injection e with e; injection e with e
    rw [e]; exact hc
  · have hne : g ≠ bb := fun e => by
      rcases o1.2 with ⟨e1, _⟩ | ⟨g1, _, cur1, e1, _, hg1, _⟩
      · injection e1 with e1; cases e1
      rcases o2.2 with ⟨e2, _⟩ | ⟨g2, _, cur2, e2, _, hg2, _⟩
      · injection e2 with e2; cases e2
      injection e1 with e1; injection e1 with e1; injection e1 with e1
      injection e2 with e2; injection e2 with e2; injection e2 with e2
      subst e1; subst e2; subst e
      have h3 : Blk h g cur1 55 := hg1
      have h4 : Blk h g cur2 5 := hg2
      have h3 : h[g]? = some (.cells cur1 55) := h3
      have h4 : h[g]? = some (.cells cur2 5) := h4
      rw [h3] at h4
      injection h4 with h4; injection h4 with _ h4; exact absurd h4 (by decide)
    refine own_set o2 (by rw [List.length_map]; exact hj) fun h' o' on => hF h' ⟨some ⟨bb, 0, none⟩, bc, o1.keep fun g' _ _ _ hg' => on.same g' (fun e => hne (by injection hg' with hg'; change g = g' at hg'; rw [hg', e])), ?_, by rw [List.length_set]; exact hl, fun y hy => ?_, hm2⟩ on
    · rw [List.length_set, List.map_set]; exact o'
    · rcases List.mem_or_eq_of_mem_set hy with hy | hy
      · exact hB y hy
      · rw [hy]; exact hx
theorem changed_law (h : Heap) (v0 v1 v2 v3 : Value) (x : ChkS.T) (block at_ b : Int) (r0 : ReadsV h ChkS v0 x) (r1 : ReadsV h (.int .i64) v1 block) (r2 : ReadsV h (.int .i64) v2 at_) (r3 : ReadsV h (.int .u8) v3 b) (hg : Laid h) :
    CallsH Tryd.prog 5 [v0, v1, v2, v3] h fun v h' => v = .bool true ∧ New h h' := by
  obtain ⟨da, dc, rfl, hd, hk⟩ := chk_in r0
  obtain ⟨cs1, e1, rfl, _⟩ := r1
  obtain ⟨cs2, e2, rfl, _⟩ := r2
  obtain ⟨cs3, e3, rfl, w3⟩ := r3
  obtain rfl := (List.cons.inj e1).1
  obtain rfl := (List.cons.inj e2).1
  obtain rfl := (List.cons.inj e3).1
  have hb := u8_wf w3
  generalize chkX x = c at hd hk ⊢
  refine fun_ok Geo.hm' Tryd.func5 (by kernel_rfl) (F5_eq c.num c.ses c.seq c.z c.p c.b da c.dir.length dc block at_ b _ h) ?_
  unfold F5
  refine new_of fun h1 b1 n1 s1 => call_of (awake_ok h1 (hg.new n1)) ?_
  have b1 : Blk h1 h.size (chkA c da dc) 27 := b1
  rintro v h2 ⟨rfl, n2⟩
  have n02 := n1.trans n2
  refine ⟨true, rfl, br_f rfl (cut_q (ts := []) (fun _ h' => New h2 h' ∧ rightC c = true ∧ 0 ≤ block ∧ 0 ≤ at_ ∧ at_ < 16) ?_ ?_)⟩
  rotate_left
  · intro K hK
    refine ldChk (b1.new n2) (call_of (own_ok c da dc h2) ?_)
    rintro v h3 ⟨rfl, n3⟩
    refine ⟨chkC c da dc, rfl, call_of (rright6_ok c da dc h3) ?_⟩
    rintro v h4 ⟨rfl, n4⟩
    have n04 := (n02.trans n3).trans n4
    refine ⟨rightC c, rfl, br_of (fun _ => ⟨rfl, n04⟩) fun hr => br_of (fun _ => ⟨rfl, n04⟩) fun h1 => br_of (fun _ => ⟨rfl, n04⟩) fun h2 => br_of (fun _ => ⟨rfl, n04⟩) fun h3 => hK () _ ⟨n3.trans n4, by simpa using hr, ?_⟩⟩
    have h1 := of_decide_eq_false h1; have h2 := of_decide_eq_false h2; have h3 := of_decide_eq_false h3
    omega
  rintro _ h3 ⟨n3, hr, hbl, ha0, ha16⟩ _
  obtain ⟨i, rfl⟩ := Int.eq_ofNat_of_zero_le hbl
  obtain ⟨j, rfl⟩ := Int.eq_ofNat_of_zero_le ha0
  have n03 := n02.trans n3
  have b3 := (b1.new n2).new n3
  obtain ⟨_, _, _, hbb, hdd⟩ := right_c hr
  have ht : tabN c.b ≤ 16 := by unfold tabN; omega
  have hm100 : manyN c.b ≤ 100 ∧ 2 ≤ manyN c.b := by unfold manyN lenN; omega
  have eb : blocksC c = (chunks (manyN c.b) (bytesC c), 0) := by unfold blocksC; rw [if_neg (by rw [hr]; simp)]
  have hlen := bytes_len hr
  refine ldChk b3 (call_of (blocks_yes c da dc h3 hr (hd.new n03)) ?_)
  rintro v h4 ⟨la, lc, rfl, li, n4⟩
  have n04 := n03.trans n4
  refine ⟨((la, manyN c.b, lc), .nilIface), rfl, cut_q (ts := []) (fun _ h' => h' = h4 ∧ i < manyN c.b) ?_ ?_⟩
  rotate_left
  · intro K hK
    refine ⟨.inl rfl, br_f rfl (br_of (fun _ => ⟨.inl rfl, rfl, n04⟩) fun hlt => hK () _ ⟨rfl, ?_⟩)⟩
    have hlt : ¬ (i : Int) ≥ (manyN c.b : Int) := of_decide_eq_false hlt
    omega
  rintro _ h' ⟨hh, hi⟩ _; subst h'
  have hlc : manyN c.b ≤ lc := by
    obtain ⟨_, _, o1, _⟩ := li
    exact o1.cap
  have em : IntKind.wrap .i64 ((manyN c.b : Int) - 1) = ((manyN c.b - 1 : Nat) : Int) := by rw [wr64 (by omega) (by omega)]; omega
  simp only [em]
  refine ⟨⟨by omega, by omega, by omega, (by first | omega | (dsimp only; omega) | (simp only []; omega))⟩, ?_⟩
  rw [show sliceBase la ((0 : Int)).toNat ((lc : Int)).toNat 1 = la from sliceBase_zero _ _]
  have rb4 : RB h4 la (chunks (manyN c.b) (bytesC c)) := li.rb
  have hro := read_ok la lc ((chunks (manyN c.b) (bytesC c)).take (manyN c.b - 1)) h4 (rb4.take _) (by rw [List.length_take, chunks_len]; omega)
  rw [List.length_take, chunks_len, Nat.min_eq_left (by omega)] at hro
  have hsh := short_c hk hr
  rw [eb] at hsh
  simp only [chunks_len] at hsh
  rw [show ((manyN c.b - 1 : Nat) : Int).toNat - ((0 : Int)).toNat = manyN c.b - 1 by omega, show ((lc : Int)).toNat - ((0 : Int)).toNat = lc by omega]
  refine call_of hro ?_
  rintro v h5 ⟨da5, dc5, rfl, o5, n5⟩
  refine ⟨(chkC _ da5 dc5, errV _), rfl, new_stL (by rw [zeroK]; rfl) fun h6 b6 n6 s6 => ⟨errV_if _, br_f (by
    show isNilV (errV (readC ((chunks (manyN c.b) (bytesC c)).take (manyN c.b - 1))).2) = false
    rw [errV_nil, decide_eq_false hsh]) ?_⟩⟩
  have n06 := (n04.trans n5).trans n6
  have li6 := (li.new n5).new n6
  obtain ⟨g, bb, rfl, hbbs, hpart, hbyte, hset⟩ := li6.at_ (by omega)
  have hjB : 16 * i + j < (bytesC c).length := by omega
  refine ptr_of ⟨⟨⟨by omega, (by first | omega | (dsimp only; omega) | (simp only []; omega))⟩, rfl⟩, ld_of (c := .slice) (some ⟨bb, 16 * i, none⟩, 16, 16) (by rw [add_mk, Int.toNat_natCast, Nat.mul_one, Nat.zero_add]; exact hpart i hi) (ptr_of ⟨⟨⟨by omega, (by first | omega | (dsimp only; omega) | (simp only []; omega))⟩, rfl⟩, ld_of (c := .int .u8) ((bytesC c)[16 * i + j]) (by rw [add_mk, Int.toNat_natCast, Nat.mul_one]; exact hbyte _ hjB) ?_⟩)⟩
  refine ptr_of ⟨⟨⟨by omega, (by first | omega | (dsimp only; omega) | (simp only []; omega))⟩, rfl⟩, ld_of (c := .slice) (some ⟨bb, 16 * i, none⟩, 16, 16) (by rw [add_mk, Int.toNat_natCast, Nat.mul_one, Nat.zero_add]; exact hpart i hi) (ptr_of ⟨⟨⟨by omega, (by first | omega | (dsimp only; omega) | (simp only []; omega))⟩, rfl⟩, ?_⟩)⟩
  rw [add_mk, Int.toNat_natCast, Nat.mul_one]
  refine hset (16 * i + j) b hjB hb _ fun h7 li7 o7 => ?_
  have n07 : New h h7 := o7.upd.new n06 (by have := n03.size; omega)
  have rb7 : RB h7 (some ⟨g, 0, none⟩) (chunks (manyN c.b) ((bytesC c).set (16 * i + j) b)) := li7.rb
  have hro := read_ok (some ⟨g, 0, none⟩) lc (chunks (manyN c.b) ((bytesC c).set (16 * i + j) b)) h7 rb7 (by rw [chunks_len]; omega)
  rw [chunks_len] at hro
  refine call_of hro ?_
  rintro v h8 ⟨da8, dc8, rfl, o8, n8⟩
  refine ⟨(chkC _ da8 dc8, errV _), rfl, new_stL (by rw [zeroK]; rfl) fun h9 b9 n9 s9 => ?_⟩
  have b9 : Blk h9 h8.size (chkA (readC (chunks (manyN c.b) ((bytesC c).set (16 * i + j) b))).1 da8 dc8) 27 := b9
  have n09 := (n07.trans n8).trans n9
  have ar9 := Ar.own (o8.grow n9)
  have bk := back_c hk hr
  rw [eb] at bk
  refine br_of (fun he => ?_) fun he => ?_
  · have he : (bytesC c)[16 * i + j] = b := by simpa using he
    have es : (bytesC c).set (16 * i + j) b = bytesC c := by rw [← he]; exact List.set_getElem_self hjB
    rw [es, bk] at b9 ar9
    have hx : (readC (chunks (manyN c.b) ((bytesC c).set (16 * i + j) b))).2 = 0 := by rw [es, bk]
    refine cut_q (ts := [.sc .bool]) (fun s h' => s = true ∧ New h h') ?_ ?_
    rotate_left
    · intro K hK
      refine ⟨errV_if _, br_t (by
        show isNilV (errV (readC (chunks (manyN c.b) ((bytesC c).set (16 * i + j) b))).2) = true
        rw [hx]; rfl) ?_⟩
      have b06 := ((b3.new n4).new n5).new n6
      have b07 : Blk h7 h.size (chkA c da dc) 27 := b06.only o7 (by have := n03.size; have := n1.size; have := n2.size; have := n3.size; omega)
      have b09 := b07.new (n8.trans n9)
      refine ldChk b09 (ldChk b9 (call_of (csame_ok c c da da8 dc dc8 h9 (hd.new n09) ar9 (by omega)) ?_))
      rintro v h10 ⟨rfl, n10⟩
      exact ⟨sameC c c, rfl, hK _ _ ⟨(sameC_iff c c).2 rfl, n09.trans n10⟩⟩
    rintro s h10 ⟨rfl, n10⟩ _
    exact ⟨rfl, n10⟩
  · have he : (bytesC c)[16 * i + j] ≠ b := by simpa using he
    have hjc : j < 16 := by omega
    have hch := changed_c hk hr (i := i) (at_ := j) (b := b) hjc hb (by rw [eb, chunks_len]; exact hi) (by
      simp only [eb]
      rw [← flat_bys _ (chunks_each hlen) i (by rw [chunks_len]; exact hi) j hjc, chunks_flat _ _ hlen, bys_get hjB]; exact he)
    simp only [eb] at hch
    rw [← chunks_set hlen hi hjc] at hch
    rcases readC_cases (chunks (manyN c.b) ((bytesC c).set (16 * i + j) b)) with ⟨_, e0⟩ | ⟨e0, _⟩
    · rw [e0] at b9 ar9
      refine ⟨errV_if _, br_t (by
        show (!(isNilV (errV (readC (chunks (manyN c.b) ((bytesC c).set (16 * i + j) b))).2))) = true
        rw [errV_nil, decide_eq_false hch]; rfl) (ldChk b9 (call_of (csame_ok ck0 ck0 da8 none dc8 0 h9 ar9 (Ar.nil _ _ _) (by decide)) ?_))⟩
      rintro v h10 ⟨rfl, n10⟩
      exact ⟨sameC ck0 ck0, rfl, by rw [(sameC_iff _ _).2 rfl], n09.trans n10⟩
    · rw [e0] at hch; exact (hch rfl).elim
end Go.Proofs.YthimfpkkdhpceaaDoor.Ck
