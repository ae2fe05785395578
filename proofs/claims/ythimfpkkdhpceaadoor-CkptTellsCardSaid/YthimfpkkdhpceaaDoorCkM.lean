/-
  ckpt.Blocks where the checkpoint may be.
-/
import Derived.Test.YthimfpkkdhpceaaDoorCkL
namespace Go.Proofs.YthimfpkkdhpceaaDoor.Ck
open Go.Pl Go.Proofs.YthimfpkkdhpceaaDoor.W Go.Proofs.YthimfpkkdhpceaaDoor.Byts Go.Proofs.YthimfpkkdhpceaaDoor.Four Go.Proofs.YthimfpkkdhpceaaDoor.Adl Go.Proofs.YthimfpkkdhpceaaDoor.Head Go.Proofs.YthimfpkkdhpceaaDoor.Geo Go.Proofs.YthimfpkkdhpceaaDoor.Rng Go.Proofs.YthimfpkkdhpceaaDoor.As
theorem own_up {h : Heap} {base base' n c size : Nat} {e : TypeId} {a : Option Addr} {xs : List Value} (o : OwnH h base e size a n c xs) (hb : ∀ g, blkOf a = some g → base' ≤ g) : OwnH h base' e size a n c xs := by
  refine ⟨o.1, ?_⟩
  rcases o.2 with h1 | ⟨g, cap, cur, e1, _, hr⟩
  · exact .inl h1
  · injection e1 with e1 e2 e3
    subst e1; subst e3
    exact .inr ⟨g, c, cur, rfl, hb g rfl, hr⟩
/-- A row that grew, above a base. -/
theorem grow_up {h0 h : Heap} {r0 : Option Nat} {base n c size : Nat} {e : TypeId} {a : Option Addr} {xs : List Value} (g : Grow h0 r0 h e size a n c xs) (o : OwnH h 0 e size a n c xs) (h1 : base ≤ h0.size) (h2 : ∀ b, r0 = some b → base ≤ b) : OwnH h base e size a n c xs := own_up o fun b hb => by
  rcases g.at_ with e1 | ⟨b', e1, h3, _⟩
  · exact h2 b (by rw [← e1]; exact hb)
  · rw [hb] at e1; injection e1 with e1; omega
theorem own_sl {h : Heap} {base c : Nat} {a : Option Addr} {xs : List Int} (o : OwnH h base 5 1 a xs.length c (xs.map (Value.int .u8))) (hb : Byt xs) : Sl8 h a c xs :=
  have r : RowS h 5 1 a xs.length c (xs.map (Value.int .u8)) := .inl (o.low (Nat.zero_le _))
  ⟨r.ar, r.le, r.capMax, fun e => by subst e; exact r.none0.2.1, hb⟩
theorem fours_one (x : Int) : fours [x] = four x := by simp [fours]
/-- How a checkpoint's blocks lie: a row of parts of one row of bytes, both new since h0. -/
def Lies (h0 h : Heap) (la : Option Addr) (m lc : Nat) (B : List Int) : Prop :=
  ∃ ba bc, OwnH h h0.size 55 1 la m lc (partV ba m) ∧ OwnH h h0.size 5 1 ba B.length bc (B.map (Value.int .u8)) ∧ B.length = 16 * m ∧ Byt B ∧ m ≤ 1000
theorem Lies.new {h0 h h' : Heap} {la : Option Addr} {m lc : Nat} {B : List Int} (l : Lies h0 h la m lc B) (n : New h h') : Lies h0 h' la m lc B := by
  obtain ⟨ba, bc, o1, o2, r⟩ := l
  exact ⟨ba, bc, o1.grow n, o2.grow n, r⟩
theorem Lies.low {h0 h1 h : Heap} {la : Option Addr} {m lc : Nat} {B : List Int} (l : Lies h1 h la m lc B) (n : New h0 h1) : Lies h0 h la m lc B := by
  obtain ⟨ba, bc, o1, o2, r⟩ := l
  exact ⟨ba, bc, o1.low n.size, o2.low n.size, r⟩
theorem chunks_get {n i : Nat} {xs : List Int} (hi : i < n) : (chunks n xs)[i]? = some ((xs.drop (16 * i)).take 16) := by
  unfold chunks
  rw [List.getElem?_map, List.getElem?_range hi]; rfl
theorem Lies.rb {h0 h : Heap} {la : Option Addr} {m lc : Nat} {B : List Int} (l : Lies h0 h la m lc B) : RB h la (chunks m B) := by
  obtain ⟨ba, bc, o1, o2, hl, hB, hm⟩ := l
  intro i bs hi
  have hlt : i < m := by
    have := (List.getElem?_eq_some_iff.1 hi).1
    rw [chunks_len] at this; exact this
  rw [chunks_get hlt] at hi
  injection hi with hi
  have hp : (partV ba m)[i]? = some (.slice (sliceBase ba (16 * i) (16 * i + 16) 1) 16 16) := by
    unfold partV; rw [List.getElem?_map, List.getElem?_range hlt]; rfl
  obtain ⟨g, e1, _, hc⟩ := o1.cell hp
  have s := sl_chunk (own_sl o2 hB) (i := i) (by omega)
  rw [hi] at s
  have hbl : bs.length = 16 := by rw [← hi, List.length_take, List.length_drop]; omega
  refine ⟨g, 0, _, 16, e1, (o1.blk_ge g (by rw [e1]; rfl)).2, ?_, s⟩
  rw [Nat.zero_add, hbl]; exact hc
theorem blocks_yes (c : Chk) (da : Option Addr) (dc : Nat) (h : Heap) (hr : rightC c = true) (hd : Ar .u32 h da c.dir) :
    CallsH Tryd.prog 11 [chkV c da dc] h fun v h' => ∃ la lc, v = .tuple #[.slice la (manyN c.b) lc, .nilIface] ∧ Lies h h' la (manyN c.b) lc (bytesC c) ∧ New h h' := by
  obtain ⟨_, hz, hp, hb, hdl⟩ := right_c hr
  have ht : tabN c.b ≤ 16 ∧ 1 ≤ tabN c.b := by unfold tabN; omega
  have hm : manyN c.b ≤ 100 := by unfold manyN lenN; omega
  have hnl : (numsC c).length = 6 + tabN c.b := by unfold numsC; simp; omega
  refine fun_ok Geo.hm' Tryd.func11 (by kernel_rfl) (F11_eq _ _ _ _ _ _ _ _ _ _ h) ?_
  unfold F11
  refine new_of fun h1 b1 n1 s1 => ldChk b1 (call_of (right_ok c da dc h1) ?_)
  rintro v h2 ⟨rfl, n2⟩
  refine ⟨rightC c, rfl, br_f (by rw [hr]; rfl) ?_⟩
  refine new_of fun h3 b3 n3 s3 => ldChk ((b1.new n2).new n3) (call_of (all_ok c da dc h3) ?_)
  rintro v h4 ⟨rfl, b4, n4, s4⟩
  refine ⟨_, rfl, ?_⟩
  have n03 := (n1.trans n2).trans n3
  have n04 := n03.trans n4
  have hB1 : h.size + 1 ≤ h2.size := by rw [← s1]; exact n2.size
  have B0 := ((b1.new n2).new n3).new n4
  have B3 := b3.new n4
  have zS : zeroC Tryd.prog 55 = #[.slice none 0 0] := by kernel_rfl
  rw [zS] at B3
  refine range_nums (cap := h3.size) (dc := dc) (da := da) c hr (fun hq l pre h5 => JL h2.size 55 5 1 (fun p : List Int => (fours p).length) (fun p => (fours p).map (Value.int .u8)) hq l pre h5 ∧ New h4 hq ∧ h4.size ≤ l)
    (fun hq l nq h5 h6 => ⟨⟨Nat.le_refl _, fun _ _ _ _ => rfl, ⟨none, 0, B3.new nq, OwnH.nil _ _ _ _⟩, by omega, h6⟩, nq, h5⟩)
    (fun hq l pre h5 h6 j o => ⟨j.1.only o, j.2⟩) (fun hq l pre h5 j => ⟨j.1.sizes, fun b hb1 hb2 hb3 => j.1.same b hb2 (by omega) hb3⟩) b4 (hd.new n04) ?_ ?_
  · rintro hq l o Y pre x post h5 hsp ⟨j, nq, hl⟩ hend
    obtain ⟨a, lc, hb5, ow⟩ := j.var
    have hpl : pre.length < 6 + tabN c.b := by rw [← hnl, hsp]; simp
    have hfl : (fours pre).length ≤ 100000 := by rw [fours_len]; omega
    refine ld_of (c := .slice) (a, (fours pre).length, lc) (by rw [cellH_blk hb5]; rfl) (call_of (lay_own a lc (fours pre) x h5 (.inl (ow.low (Nat.zero_le _))) hfl) ?_)
    rintro v h6 ⟨a', c', rfl, g6, o6⟩
    refine ⟨(a', (fours pre ++ four x).length, c'), rfl, ?_⟩
    have o6' := grow_up g6 o6 j.sizes fun b hb => (ow.blk_ge b hb).1
    have e : fours (pre ++ [x]) = fours pre ++ four x := by rw [fours_app, fours_one]
    refine j.grown (pre' := pre ++ [x]) hb5 ow g6.upd (by rw [e]) (by rw [e]; exact o6') fun h7 j7 => hend h7 ⟨j7, nq, hl⟩
  · intro hq l o h5 hE
    refine .inl (hE _ fun h6 ⟨j, nq, hl⟩ => ?_)
    obtain ⟨a, lc, hb6, ow⟩ := j.var
    have hq4 := nq.size
    have hqs := j.sizes
    have hs3 := n3.size
    have hs4 := n4.size
    have n06 : New h h6 := ⟨by have := n04.size; omega, fun b hb => by rw [j.same b (by have := n04.size; omega) (by omega) (by have := n04.size; omega), nq.same b (by have := n04.size; omega), n04.same b hb]⟩
    have B06 : Blk h6 h.size (chkA c da dc) 27 := (j.same h.size (by omega) (by omega) (by omega)).trans (B0.new nq)
    have hl0 : (fours (numsC c)).length ≤ 1000 := by rw [fours_len, hnl]; omega
    refine ld_of (c := .slice) (a, (fours (numsC c)).length, lc) (by rw [cellH_blk hb6]; rfl) (ld_of (c := .slice) (a, (fours (numsC c)).length, lc) (by rw [cellH_blk hb6]; rfl) ?_)
    have sl6 := own_sl ow (fours_byt _)
    refine call_of (Sum.of_ok a lc (fours (numsC c)) h6 sl6.le sl6.nil (fours_byt _) sl6.ar) ?_
    rintro v h7 ⟨rfl, n7⟩
    have hb7 := hb6.new n7
    have ow7 := ow.grow n7
    refine ⟨sumL (fours (numsC c)), rfl, ⟨by rw [cellH_blk hb7]; rfl, call_of (lay_own a lc (fours (numsC c)) _ h7 (.inl (ow7.low (Nat.zero_le _))) (by omega)) ?_⟩⟩
    rintro v h8 ⟨a8, c8, rfl, g8, o8⟩
    have hs7 := n7.size
    have o8 := grow_up (base := hq.size) g8 o8 (by omega) fun b hb => (ow7.blk_ge b hb).1
    have ub : ∀ b, b < hq.size → h8[b]? = h7[b]? := fun b hb => g8.upd.same b (by omega) fun e => by have := (ow7.blk_ge b e.symm).1; omega
    have hb8 : Blk h8 h2.size #[.slice a (fours (numsC c)).length lc] 55 := (ub h2.size (by omega)).trans hb7
    have n08 : New h h8 := g8.upd.grow (n06.trans n7) fun b hb => by have := (ow7.blk_ge b hb).1; have := n04.size; omega
    have B08 : Blk h8 h.size (chkA c da dc) 27 := (ub h.size (by omega)).trans (B06.new n7)
    have hfu : fours (numsC c) ++ four (sumL (fours (numsC c))) = fullC c := rfl
    rw [hfu] at o8 ⊢
    refine ⟨(a8, (fullC c).length, c8), rfl, st_blk hb8 (by simp) fun h9 b9 o9 => ?_⟩
    have n09 : New h h9 := ⟨by rw [o9.size]; exact n08.size, fun b hb => by rw [o9.same b (by omega), n08.same b hb]⟩
    have B09 := B08.only o9 (by omega)
    have ow9 : OwnH h9 hq.size 5 1 a8 (fullC c).length c8 ((fullC c).map (Value.int .u8)) := o8.keep fun g _ hg _ _ => o9.same g (by omega)
    have hs9 : hq.size ≤ h9.size := by rw [o9.size]; have := g8.upd.size; omega
    have b9' : Blk h9 h2.size #[.slice a8 (fullC c).length c8] 55 := b9
    refine ld_of (c := .slice) (a8, (fullC c).length, c8) (by rw [cellH_blk b9']; rfl) (ld_of (c := .int .i64) c.b (by rw [add_mk, add_mk, cellH_blk B09]; rfl) (ld_of (c := .slice) (a8, (fullC c).length, c8) (by rw [cellH_blk b9']; rfl) (call_of (many_ok c.b h9 hb) ?_)))
    rintro v h' ⟨rfl, hh⟩; subst h'
    refine ⟨(manyN c.b : Int), rfl, ⟨by rw [cellH_blk b9']; rfl, ⟨by rw [cellH_blk b9']; rfl, ?_⟩⟩⟩
    have hful : (fullC c).length ≤ manyN c.b * 16 := by rw [full_len, hdl]; unfold manyN lenN; omega
    have e1 : IntKind.wrap .i64 (IntKind.wrap .i64 ((manyN c.b : Int) * 16) - (((fullC c).length : Nat) : Int)) = ((manyN c.b * 16 - (fullC c).length : Nat) : Int) := by
      rw [wr64 (n := (manyN c.b : Int) * 16) (by omega) (by omega), wr64 (by omega) (by omega)]; omega
    rw [e1]
    refine ap_zeros (zv := .int .u8 0) ap8' intI zero8i rfl rfl ow9 (by simp only [maxLen]; omega) (by omega) hs9 fun a10 c10 h10 o10 u10 => ?_
    have ub : ∀ b, b < hq.size → h10[b]? = h9[b]? := fun b hb => u10.same b (by omega) fun e => by have := (ow9.blk_ge b e.symm).1; omega
    have b10 : Blk h10 h2.size #[.slice a8 (fullC c).length c8] 55 := (ub h2.size (by omega)).trans b9'
    have n010 : New h h10 := u10.grow n09 fun b hb => by have := (ow9.blk_ge b hb).1; have := n04.size; omega
    have eb : (fullC c).map (Value.int .u8) ++ List.replicate (manyN c.b * 16 - (fullC c).length) (Value.int .u8 0) = (bytesC c).map (Value.int .u8) := by unfold bytesC; rw [List.map_append, List.map_replicate]
    have el : (fullC c).length + (manyN c.b * 16 - (fullC c).length) = (bytesC c).length := by unfold bytesC; rw [List.length_append, List.length_replicate]
    rw [eb, el] at o10
    rw [el]
    refine ⟨by rw [cellH_blk b10]; rfl, st_blk b10 (by simp) fun h11 b11 o11 => ?_⟩
    have b11' : Blk h11 h2.size #[.slice a10 (bytesC c).length c10] 55 := b11
    have n011 : New h h11 := ⟨by rw [o11.size]; exact n010.size, fun b hb => by rw [o11.same b (by omega), n010.same b hb]⟩
    have o11' : OwnH h11 hq.size 5 1 a10 (bytesC c).length c10 ((bytesC c).map (Value.int .u8)) := o10.keep fun g _ hg _ _ => o11.same g (by omega)
    refine ld_of (c := .slice) (a10, (bytesC c).length, c10) (by rw [cellH_blk b11']; rfl) (call_of (chunk_ok a10 (bytesC c).length c10 h11) ?_)
    rintro v h12 ⟨rfl, k0, k1, n12, s12⟩
    refine ⟨_, rfl, ?_⟩
    have hbl := bytes_len hr
    have o12 := o11'.grow n12
    refine call_of (collect_ok hbl (by omega) h12 k0 k1 (own_sl o12 (bytes_byt c))) ?_
    rintro v h13 ⟨la, lc2, rfl, o13, n13⟩
    have n013 := (n011.trans n12).trans n13
    refine ⟨(la, manyN c.b, lc2), rfl, fun h14 t14 => ⟨la, lc2, rfl, ⟨a10, c10, ?_, ?_, hbl, bytes_byt c, by omega⟩, new_taken n013 t14⟩⟩
    · exact OwnH.low (base := h12.size) (o13.keep fun _ _ _ hg _ => Tk_blk t14 hg) (n011.trans n12).size
    · exact OwnH.low (base := hq.size) ((o12.grow n13).keep fun _ _ _ hg _ => Tk_blk t14 hg) (by have := n04.size; omega)
end Go.Proofs.YthimfpkkdhpceaaDoor.Ck
