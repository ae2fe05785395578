/-
  Texts of this claim, one behind the other: L17E, L17C.
-/
import Derived.Test.YthimfpkkdhpceaaDoorP3
/-
  DirBack: rows of entries; a bool of a row.
-/
namespace Go.Proofs.YthimfpkkdhpceaaDoor.Dir
open Go.Pl Go.Proofs.YthimfpkkdhpceaaDoor.W Go.Proofs.YthimfpkkdhpceaaDoor.Byts Go.Proofs.YthimfpkkdhpceaaDoor.As Go.Proofs.YthimfpkkdhpceaaDoor.Err Go.Proofs.YthimfpkkdhpceaaDoor.Head Go.Proofs.YthimfpkkdhpceaaDoor.HdP Go.Proofs.YthimfpkkdhpceaaDoor.Zns Go.Proofs.YthimfpkkdhpceaaDoor.ZnsP Go.Proofs.YthimfpkkdhpceaaDoor.Geo Go.Proofs.YthimfpkkdhpceaaDoor.Med
abbrev TEn : TypeId := 69
theorem apEn : apB Tryd.prog 67 TEn 3 16 = true := by kernel_rfl
theorem zeroD : zeroC Tryd.prog 59 = #[.pointer none] := by kernel_rfl
theorem zeroI : zeroC Tryd.prog 3 = #[.int .i64 0] := by kernel_rfl
theorem sizeU : sizeN Tryd.prog 22 = 1 := by kernel_rfl
theorem zeroU : zeroC Tryd.prog 22 = #[.int .u32 0] := by kernel_rfl
theorem bytesU : bytesN Tryd.prog 22 = 4 := by kernel_rfl
def enc1 (q : Nat × Int) : List Value := [.int .i64 (q.1 : Int), .int .u32 q.2, .bool false]
def encs (es : List (Nat × Int)) : List Value := es.flatMap enc1
theorem encs_len : ∀ es : List (Nat × Int), (encs es).length = es.length * 3
  | [] => rfl
  | x :: r => by
    have : encs (x :: r) = enc1 x ++ encs r := rfl
    rw [this, List.length_append, encs_len r]
    show 3 + _ = (r.length + 1) * 3
    omega
theorem encs_app (es : List (Nat × Int)) (q : Nat × Int) : encs (es ++ [q]) = encs es ++ enc1 q := by unfold encs; rw [List.flatMap_append]; simp
theorem encs_at : ∀ (es : List (Nat × Int)) (i : Nat) (q : Nat × Int), es[i]? = some q → ∀ j, j < 3 → (encs es)[i * 3 + j]? = (enc1 q)[j]?
  | [], i, q, h, _, _ => by simp at h
  | x :: r, 0, q, h, j, hj => by
    have h : x = q := by simpa using h
    subst h
    have : encs (x :: r) = enc1 x ++ encs r := rfl
    rw [this, Nat.zero_mul, Nat.zero_add, List.getElem?_append_left (show j < (enc1 x).length from hj)]
  | x :: r, i + 1, q, h, j, hj => by
    have h : r[i]? = some q := by simpa using h
    have : encs (x :: r) = enc1 x ++ encs r := rfl
    rw [this, List.getElem?_append_right (show (enc1 x).length ≤ (i + 1) * 3 + j by show 3 ≤ _; omega)]
    rw [show (i + 1) * 3 + j - (enc1 x).length = i * 3 + j by show _ - 3 = _; omega]
    exact encs_at r i q h j hj
theorem ent_own {h : Heap} {base n c : Nat} {a : Option Addr} {es : List (Nat × Int)} (o : OwnH h base TEn 3 a n c (encs es)) : EntR h a es := by
  intro i q hq
  have hi := (List.getElem?_eq_some_iff.1 hq).1
  have hl := encs_len es
  rcases OwnH.row o with ⟨h1, ⟨rfl, rfl, _⟩ | ⟨g, cur, rfl, _, hb, _, _, ht⟩⟩
  · omega
  · have key : ∀ (k : Nat) (u : Value), (encs es)[k]? = some u → cur[k]? = some u := fun k u hk => by
      rw [← ht, List.getElem?_take] at hk
      split at hk
      · simpa using hk
      · cases hk
    refine ⟨g, cur, TEn, rfl, hb, ?_, ?_, ?_, trivial⟩
    · exact key _ _ ((encs_at es i q hq 0 (by omega)).trans rfl)
    · exact key _ _ ((encs_at es i q hq 1 (by omega)).trans rfl)
    · exact key _ _ ((encs_at es i q hq 2 (by omega)).trans rfl)
theorem bools_in {h : Heap} {v : Value} {l : List Bool} (r : ReadsV h (.slice .bool) v l) : ∃ a c, v = .slice a l.length c ∧ Bo h a l := by
  obtain ⟨cs, hcs, a, c, e, _, _, _, hr⟩ := r
  simp only at hcs
  subst hcs
  injection e with e
  refine ⟨a, c, e, fun i x hi => ?_⟩
  obtain ⟨b, o, es, e1, hb, hl, hc, e2⟩ := hr i x hi
  have := hc 0 Nat.one_pos
  rw [e2] at this
  exact ⟨b, o, e1, hb, by simpa [Sh.n] using this⟩
theorem bo_new {h h' : Heap} {a : Option Addr} {l : List Bool} (r : Bo h a l) (n : New h h') : Bo h' a l := fun i x hx => by
  obtain ⟨b, o, e, hb, hc⟩ := r i x hx
  exact ⟨b, o, e, Nat.lt_of_lt_of_le hb n.size, by rw [cellH_new (a := ⟨b, o + i, none⟩) n hb]; exact hc⟩
theorem bo_ld {h : Heap} {a : Option Addr} {l : List Bool} (r : Bo h a l) {i n : Nat} (hi : i < l.length) (hn : i < n) {F : Bool → Prop} (hF : ∀ x, F x) :
    ptrW a (fun p => idxW (i : Int) n true (ldW .bool (Addr.add p (Int.toNat (i : Int) * 1)) F h)) := by
  obtain ⟨b, o, rfl, _, hc⟩ := r i _ (List.getElem?_eq_getElem hi)
  exact ⟨⟨by omega, rfl⟩, ld_of (c := .bool) l[i] (by rw [Int.toNat_natCast, Nat.mul_one, add_mk]; exact hc) (hF _)⟩
/-- A row of numbers of one's own, all of it. -/
def rowA (av : List Int) : Array Value := (av.map (Value.int .u32)).toArray
theorem rowA_set (av : List Int) (i : Nat) (x : Int) : (rowA av).setIfInBounds i (.int .u32 x) = rowA (av.set i x) := by
  unfold rowA
  apply Array.ext_getElem?
  intro k
  simp [List.getElem?_set]
theorem rowA_zero (n : Nat) : Array.replicate n (Value.int .u32 0) = rowA (List.replicate n 0) := by unfold rowA; simp
theorem rowA_size (av : List Int) : (rowA av).size = av.length := by simp [rowA]
/-- A device where a block of the law's own is turned. -/
theorem PRep.mine {b c : Nat} {t : Tags} {D : Dev} {h h' : Heap} (r : PRep 1 t h b D) (ht : (t c).1 = 3) (u : Upd c h h') : PRep 1 t h' b D := by
  have f : Fr (fun q : Nat × Nat => q.1 ≠ 3) t h t h' := Fr.upd u (by rw [ht]; simp)
  exact r.fr f (fun q hq => by rw [hq]; decide) fun _ => by simp
end Go.Proofs.YthimfpkkdhpceaaDoor.Dir
/-
  DirBack.
-/
namespace Go.Proofs.YthimfpkkdhpceaaDoor.Dir
open Go.Pl Go.Proofs.YthimfpkkdhpceaaDoor.W Go.Proofs.YthimfpkkdhpceaaDoor.Byts Go.Proofs.YthimfpkkdhpceaaDoor.As Go.Proofs.YthimfpkkdhpceaaDoor.Err Go.Proofs.YthimfpkkdhpceaaDoor.Head Go.Proofs.YthimfpkkdhpceaaDoor.HdP Go.Proofs.YthimfpkkdhpceaaDoor.Zns Go.Proofs.YthimfpkkdhpceaaDoor.ZnsP Go.Proofs.YthimfpkkdhpceaaDoor.Geo Go.Proofs.YthimfpkkdhpceaaDoor.Med
theorem ckB_of {b : Bool} {F : Prop} (hb : b = true) (hF : F) : ckB b F := by subst hb; exact hF
/-- What the law's own variables hold. -/
structure St (h4 : Heap) (z p : Int) (b A0 A1 AV : Nat) (D : Dev) (zn : Nat) (log : List (Hd × List Int)) (av : List Int) (t : Tags) (h : Heap) : Prop where
  puts : Puts z p D zn log
  rep : PRep 1 t h b D
  base : New h4 h
  tag : ∀ g, g < h4.size → (t g).1 = 0
  b0 : Blk h A0 #[ptr b] 59
  b1 : Blk h A1 #[.int .i64 (zn : Int)] 3
  bv : Blk h AV (rowA av) 22
  t0 : (t A0).1 = 3
  t1 : (t A1).1 = 3
  tv : (t AV).1 = 3
  l1 : h4.size ≤ A1
  lv : h4.size ≤ AV
  n01 : A0 ≠ A1
  n0v : A0 ≠ AV
  n1v : A1 ≠ AV
section
variable {h4 h h' : Heap} {z p : Int} {b A0 A1 AV : Nat} {D D' : Dev} {zn : Nat} {log log' : List (Hd × List Int)} {av : List Int} {t t' : Tags}
theorem St.new (s : St h4 z p b A0 A1 AV D zn log av t h) (n : New h h') : St h4 z p b A0 A1 AV D zn log av t h' :=
  ⟨s.puts, DRep.new s.rep n, s.base.trans n, s.tag, s.b0.new n, s.b1.new n, s.bv.new n, s.t0, s.t1, s.tv, s.l1, s.lv, s.n01, s.n0v, s.n1v⟩
theorem St.put (s : St h4 z p b A0 A1 AV D zn log av t h) {zn' : Nat} (P : Puts z p D' zn' log') (r : PRep 1 t' h' b D') (b1 : Blk h' A1 #[.int .i64 (zn' : Int)] 3) (k : Kept A1 t h t' h') : St h4 z p b A0 A1 AV D' zn' log' av t' h' := by
  have lt4 : ∀ g, g < h4.size → g < h.size := fun g hg => Nat.lt_of_lt_of_le hg s.base.size
  have l1 := s.l1
  refine ⟨P, r, ⟨Nat.le_trans s.base.size k.size, fun g hg => ?_⟩, fun g hg => ?_, k.blk s.b0 (by rw [s.t0]; decide) s.n01, b1, k.blk s.bv (by rw [s.tv]; decide) (Ne.symm s.n1v), ?_, ?_, ?_, s.l1, s.lv, s.n01, s.n0v, s.n1v⟩
  · rw [k.same g (lt4 g hg) (by rw [s.tag g hg]; decide) (by omega)]; exact s.base.same g hg
  · rw [k.tags g (lt4 g hg)]; exact s.tag g hg
  · rw [k.tags _ s.b0.lt]; exact s.t0
  · rw [k.tags _ s.b1.lt]; exact s.t1
  · rw [k.tags _ s.bv.lt]; exact s.tv
theorem St.set (s : St h4 z p b A0 A1 AV D zn log av t h) {i n : Nat} (hi : i < av.length) (hn : i < n) (x : Int) {F : Heap → Prop} (hF : ∀ h', St h4 z p b A0 A1 AV D zn log (av.set i x) t h' → Only AV h h' → F h') :
    ptrW (some ⟨AV, 0, none⟩) (fun a => idxW (i : Int) n true (stW (Addr.add a (Int.toNat (i : Int) * 1)) (.int .u32 x) F h)) := by
  refine ⟨⟨by omega, rfl⟩, ?_⟩
  rw [Int.toNat_natCast, Nat.mul_one, add_mk, Nat.zero_add]
  refine st_blk s.bv (by rw [rowA_size]; exact hi) fun h' bv o => hF h' ?_ o
  have lv := s.lv
  rw [rowA_set] at bv
  exact ⟨s.puts, PRep.mine s.rep s.tv o.upd, o.upd.new s.base s.lv, s.tag, s.b0.only o s.n0v, s.b1.only o s.n1v, bv, s.t0, s.t1, s.tv, s.l1, s.lv, s.n01, s.n0v, s.n1v⟩
theorem St.ar (s : St h4 z p b A0 A1 AV D zn log av t h) : Ar .u32 h (some ⟨AV, 0, none⟩) av := Ar.blk s.bv
end
set_option maxHeartbeats 1000000 in
theorem dirback_law (h : Heap) (v0 v1 v2 v3 : Value) (g : Int × Int × Int) (there moved : List Bool) (tw : Int) (r0 : ReadsV h (.pair (.int .i64) (.pair (.int .i64) (.int .i64))) v0 g) (r1 : ReadsV h (.slice .bool) v1 there) (r2 : ReadsV h (.slice .bool) v2 moved) (r3 : ReadsV h (.int .i64) v3 tw) (hg : Laid h) :
    CallsH Tryd.prog 7 [v0, v1, v2, v3] h fun v h' => v = .bool true ∧ New h h' := by
  obtain ⟨cs, rfl, x1, y1, rfl, ⟨rfl, _⟩, x2, y2, rfl, ⟨rfl, _⟩, ⟨rfl, _⟩⟩ := r0
  obtain ⟨cs3, e3, rfl, w3⟩ := r3
  obtain rfl := (List.cons.inj e3).1
  obtain ⟨ta, tc, rfl, bt⟩ := bools_in r1
  obtain ⟨ma, mc, rfl, bm⟩ := bools_in r2
  obtain ⟨z, p, gb⟩ := g
  refine fun_ok Geo.hm' Tryd.func7 (by kernel_rfl) (F7_eq z p gb ta there.length tc ma moved.length mc tw _ h) ?_
  unfold F7
  rw [zeroD, zeroI]
  refine new_of fun h1 b1 n1 s1 => call_of (awake_ok h1 (hg.new n1)) ?_
  have b1 : Blk h1 h.size #[.int .i64 z, .int .i64 p, .int .i64 gb] 24 := b1
  rintro v h2 ⟨rfl, n2⟩
  have n02 := n1.trans n2
  have b2 := b1.new n2
  refine ⟨true, rfl, br_f rfl (cut_q (ts := []) (fun _ h' => New h2 h' ∧ rightB z p gb = true) ?_ ?_)⟩
  rotate_left
  · intro K hK
    refine ldAgg_blk (z, p, gb) b2 ⟨rfl, rfl, rfl, trivial⟩ (call_of (R2.rright_ok z p gb h2) ?_)
    rintro v h3 ⟨rfl, n3⟩
    have n03 := n02.trans n3
    exact ⟨_, rfl, br_of (fun _ => ⟨rfl, n03⟩) fun hr => ld_of (c := .int .i64) gb (by rw [add_mk, cellH_blk (b2.new n3)]; rfl) (br_of (fun _ => ⟨rfl, n03⟩) fun _ => br_of (fun _ => ⟨rfl, n03⟩) fun _ => br_of (fun _ => ⟨rfl, n03⟩) fun _ => hK _ _ ⟨n3, by simpa using hr⟩)⟩
  rintro _ h4 ⟨n4, hr⟩ _
  obtain ⟨hz, hp, hgb1, hgb2⟩ := right_facts hr
  have hroom := room hr
  have n04 := n02.trans n4
  have b4 := b2.new n4
  have hlt1 : h.size < h4.size := b4.lt
  obtain ⟨zc, rfl⟩ := Int.eq_ofNat_of_zero_le (show 0 ≤ z by omega)
  obtain ⟨pc, rfl⟩ := Int.eq_ofNat_of_zero_le (show 0 ≤ p by omega)
  obtain ⟨gn, rfl⟩ := Int.eq_ofNat_of_zero_le (show 0 ≤ gb by omega)
  refine ld_of (c := .int .i64) (zc : Int) (by rw [add_mk, cellH_blk b4]; rfl) (ld_of (c := .int .i64) (pc : Int) (by rw [add_mk, cellH_blk b4]; rfl) (call_of (ZnsP.new_ok 1 (by decide) (fun _ => (0, 0)) zc pc h4 (by omega) (by omega)) ?_))
  rintro v h5 ⟨b, rfl, n5, _, t5, ht5, r5⟩
  have r5 : PRep 1 t5 h5 b (Dev.empty zc pc) := r5
  have P5 : Puts (zc : Int) (pc : Int) (Dev.empty zc pc) 0 [] := Puts.start (by omega) (by omega)
  generalize Dev.empty zc pc = D5 at r5 P5
  refine ⟨(some ⟨b, 0, none⟩, errV 0), rfl, new_st fun h6 b6 n6 s6 => ld_of (c := .ptr) (some ⟨b, 0, none⟩) (by rw [cellH_blk b6]; rfl) (br_f rfl (new_st fun h7 b7 n7 s7 => ?_))⟩
  have g7 : cellH h7 (Addr.add ⟨h.size, 0, none⟩ 2) = some (.int .i64 (gn : Int)) := by rw [add_mk, cellH_blk (((b4.new n5).new n6).new n7)]; rfl
  refine ld_of (c := .int .i64) (gn : Int) g7 (mk_of (n := gn) sizeU zeroU (by rw [bytesU]; omega) (by omega) fun h8 b8 n8 s8 => ?_)
  rw [rowA_zero] at b8
  have hs5 := n5.size
  have n58 := (n6.trans n7).trans n8
  have tl : ∀ q, h5.size ≤ q → (lay t5 h5.size (3, 0) q).1 = 3 := fun q hq => by rw [lay_ge hq]
  have hs6 := n6.size
  have hs7 := n7.size
  have S8 : St h4 zc pc b h5.size h6.size h7.size D5 0 [] (List.replicate gn 0) (lay t5 h5.size (3, 0)) h8 :=
    ⟨P5, r5.fr (S := fun _ => True) (Fr.lay n58 _) (fun _ _ => trivial) fun _ => trivial, n5.trans n58, fun q hq => by rw [lay_lt (by omega), ht5 q hq], (b6.new n7).new n8, b7.new n8, b8, tl _ (Nat.le_refl _), tl _ (by omega), tl _ (by omega), by omega, by omega, by omega, by omega, by omega⟩
  generalize lay t5 h5.size (3, 0) = t8 at S8
  have geo : ∀ h', New h4 h' → Blk h' h.size #[.int .i64 (zc : Int), .int .i64 (pc : Int), .int .i64 (gn : Int)] 24 := fun h' n => b4.new n
  have g2 : ∀ h', New h4 h' → cellH h' (Addr.add ⟨h.size, 0, none⟩ 2) = some (.int .i64 (gn : Int)) := fun h' n => by rw [add_mk, cellH_blk (geo h' n)]; rfl
  have bt4 := bo_new bt n04
  have bm4 := bo_new bm n04
  refine ⟨fun (s : Int) h' => ∃ (i : Nat) (D : Dev) (zn : Nat) (log : List (Hd × List Int)) (av : List Int) (t : Tags), s = i ∧ i ≤ gn ∧ log.length ≤ i ∧ St h4 zc pc b h5.size h6.size h7.size D zn log av t h' ∧ AllI gn i log av, fun (s : Int) _ => ((gn : Int) - s).toNat, ⟨0, D5, 0, [], _, t8, rfl, Nat.zero_le _, Nat.le_refl _, S8, AllI.start gn []⟩, ?_⟩
  rintro s j h9 ⟨i, D, zn, log, av, t, rfl, hi, hll, S9, A9⟩
  have hal := A9.len
  refine br_of (fun hlt => ?_) (fun hlt => ?_)
  · have hlt : (i : Int) < (gn : Int) := of_decide_eq_true hlt
    have hiL : i < gn := by omega
    refine cut_q (ts := [.sc .bool]) (fun _ h' => h' = h9) ?_ fun K kk => ?_
    rotate_left
    · refine br_of (fun h10 => ?_) (fun _ => kk false h9 rfl)
      have h10 : (i : Int) < (there.length : Int) := of_decide_eq_true h10
      exact bo_ld (bo_new bt4 S9.base) (by omega) (by omega) fun x => kk x h9 rfl
    rintro th h' hh _; subst h'
    refine br_of (fun _ => ?_) (fun _ => ⟨⟨i + 1, D, zn, log, av, t, (by first | (rw [wr64 (by omega) (by omega)]; omega) | (simp only [IntKind.wrap_i64]; omega)), hiL, by omega, S9, A9.skip⟩, (by dsimp only; first | (rw [wr64 (by omega) (by omega)]; omega) | (rw [wr64 (by omega) (by omega), wr64 (by omega) (by omega)]; omega) | (simp only [IntKind.wrap_i64]; omega))⟩)
    refine cut_q (ts := [.sc (.int .u8)]) (fun (s : Int) h' => h' = h9 ∧ (s = 1 ∨ s = 4)) ?_ fun K kk => ?_
    rotate_left
    · refine br_of (fun h10 => ?_) (fun _ => kk (show Int from 1) h9 ⟨rfl, .inl rfl⟩)
      have h10 : (i : Int) < (moved.length : Int) := of_decide_eq_true h10
      exact bo_ld (bo_new bm4 S9.base) (by omega) (by omega) fun x => br_of (fun _ => kk (show Int from 4) h9 ⟨rfl, .inr rfl⟩) (fun _ => kk (show Int from 1) h9 ⟨rfl, .inl rfl⟩)
    rintro kd h' ⟨hh, hkd⟩ _; subst h'
    refine mk_of (n := 16) Body.size5 Body.zero5 (by rw [Body.bytes5]; omega) (by omega) fun h10 b10 n10 s10 => ?_
    have S10 := S9.new n10
    have l1 := S9.b1.lt
    refine callW_of (first := #[]) (cap := #[ptr h5.size, ptr h6.size, ptr h.size]) (put17_ok (g := (gn : Int)) S10.puts (by omega) kd (by rcases hkd with e | e <;> (rw [e]; decide)) i (by omega) (some ⟨h9.size, 0, none⟩) 16 zeros16 rfl t h10 S10.rep (blk16 b10) S10.b0 S10.b1 (geo h10 S10.base) S10.t1 S10.n01 (by have := S10.l1; omega)
      (fun e => by have e : h9.size = h6.size := Option.some.inj e
                   omega)) ?_
    rintro v h11 ⟨rfl, D', t', P', r', b', k'⟩
    have S11 := S10.put P' r' b' k'
    refine ⟨(log.length : Int) + 1, rfl, ?_⟩
    refine S11.set (by omega) hiL _ fun h12 S12 _ => ?_
    exact ⟨⟨i + 1, D', _, _, _, t', (by first | (rw [wr64 (by omega) (by omega)]; omega) | (simp only [IntKind.wrap_i64]; omega)), by omega, by rw [List.length_append]; simp; omega, S12, A9.put kd hkd⟩, (by dsimp only; first | (rw [wr64 (by omega) (by omega)]; omega) | (rw [wr64 (by omega) (by omega), wr64 (by omega) (by omega)]; omega) | (simp only [IntKind.wrap_i64]; omega))⟩
  have hlt : ¬ (i : Int) < (gn : Int) := of_decide_eq_false hlt
  obtain rfl : i = gn := by omega
  have htb : ((i : Int) + 3) / 4 = (((i + 3) / 4 : Nat) : Int) := by omega
  refine ld_of (c := .int .i64) (i : Int) (g2 h9 S9.base) (call_of (tables_ok (i : Int) h9 (by omega) (by omega)) ?_)
  rintro v h' ⟨rfl, hh⟩; subst h'
  rw [htb]
  generalize hT : (i + 3) / 4 = T at *
  refine ⟨(T : Int), rfl, mk_of (n := T) sizeU zeroU (by rw [bytesU]; omega) (by omega) fun h10 b10 n10 s10 => ?_⟩
  rw [rowA_zero] at b10
  have S10 := S9.new n10
  have hl9 := S9.bv.lt
  have hl90 := S9.b0.lt
  have hl91 := S9.b1.lt
  have h49 := S9.base.size
  have ex : ∃ t0 : Tags, St h4 zc pc b h5.size h6.size h7.size D zn log av t0 h10 ∧ (t0 h9.size).1 = 3 := by
    refine ⟨lay t h9.size (3, 0), ⟨S10.puts, DRep.fr S9.rep (S := fun _ => True) (Fr.lay n10 _) (fun _ _ => trivial) fun _ => trivial, S10.base, fun q hq => ?_, S10.b0, S10.b1, S10.bv, ?_, ?_, ?_, S10.l1, S10.lv, S10.n01, S10.n0v, S10.n1v⟩, by rw [lay_ge (Nat.le_refl _)]⟩
    · rw [lay_lt (by omega)]; exact S9.tag q hq
    · rw [lay_lt hl90]; exact S9.t0
    · rw [lay_lt hl91]; exact S9.t1
    · rw [lay_lt hl9]; exact S9.tv
  obtain ⟨t0, S10', tp0⟩ := ex
  have hav := addr_lt (by omega) A9
  refine ⟨fun (s : Int) h' => ∃ (q : Nat) (D : Dev) (zn : Nat) (log : List (Hd × List Int)) (pl : List Int) (t : Tags), s = q ∧ q ≤ T ∧ log.length ≤ i + q ∧ St h4 zc pc b h5.size h6.size h7.size D zn log av t h' ∧ AllI i i log av ∧ DirI T q av log pl ∧ Blk h' h9.size (rowA pl) 22 ∧ (t h9.size).1 = 3, fun (s : Int) _ => ((T : Int) - s).toNat,
    ⟨0, D, zn, log, _, t0, rfl, Nat.zero_le _, hll, S10', A9, DirI.start T av log, b10, tp0⟩, ?_⟩
  clear S10 S10' S9 tp0 n10 s10 b10 t0
  clear A9 hll t log zn D
  rintro s j' hA ⟨q, D, zn, log, pl, t, rfl, hq, hll, SA, AA, BA, bp, tp⟩
  have hpl := BA.len
  refine br_of (fun hlt2 => ?_) (fun hlt2 => ?_)
  · have hlt2 : (q : Int) < (T : Int) := of_decide_eq_true hlt2
    have hqT : q < T := by omega
    refine ⟨fun (s : (Option Addr × Nat × Nat) × Int) h' => New hA h' ∧ ∃ (a : Option Addr) (c m : Nat), s = ((a, m, c), (m : Int)) ∧ m ≤ i ∧ OwnH h' hA.size TEn 3 a m c (encs (ents av m)), fun (s : (Option Addr × Nat × Nat) × Int) _ => ((i : Int) - s.2).toNat, ⟨New.refl _, none, 0, 0, rfl, Nat.zero_le _, OwnH.nil _ _ _ _⟩, ?_⟩
    rintro s j3 hB ⟨nB, a, c, m, rfl, hm, ow⟩
    have SB := SA.new nB
    refine br_of (fun hlt3 => ?_) (fun hlt3 => ?_)
    · have hlt3 : (m : Int) < (i : Int) := of_decide_eq_true hlt3
      have hmi : m < i := by omega
      have hmL : m < av.length := by omega
      refine ix_ld SB.ar hmL hmi (new_of fun hC bC nC sC => ?_)
      have owC := OwnH.grow ow nC
      have hgd : av.getD m 0 = av[m] := by rw [List.getD_eq_getElem?_getD, List.getElem?_eq_getElem hmL]; rfl
      refine ap_own apEn (by decide) owC (m := 1) (k := 1) (x := ⟨hB.size, 0, none⟩) (enc1 (m, av[m])) rfl ?_ ?_ ?_ ?_ ?_ ?_
      · intro u y hy
        rw [add_mk, Nat.zero_add, cellH_blk bC]
        unfold enc1 at hy
        simpa using hy
      · intro u hu
        unfold enc1 at hu
        simp only [List.mem_cons, List.not_mem_nil, or_false] at hu
        rcases hu with rfl | rfl | rfl <;> rfl
      · simp [maxLen]; omega
      · omega
      · have := nB.size; have := nC.size; omega
      · intro a' c' hD oD uD
        have hab : Abo hA.size hC hD := uD.abo fun y hy => by
          rcases OwnH.row owC with ⟨_, ⟨rfl, _⟩ | ⟨q', cur, rfl, hb', _⟩⟩
          · cases hy
          · have : q' = y := Option.some.inj hy
            omega
        rw [← hgd, ← encs_app, ← ents_succ] at oD
        exact ⟨⟨Abo.from (nB.trans nC) hab (Nat.le_refl _), a', c', m + 1, by rw [show IntKind.wrap .i64 ((m : Int) + 1) = ((m + 1 : Nat) : Int) by rw [wr64 (by omega) (by omega)]; omega], hmi, oD⟩, (by dsimp only; first | (rw [wr64 (by omega) (by omega)]; omega) | (rw [wr64 (by omega) (by omega), wr64 (by omega) (by omega)]; omega) | (simp only [IntKind.wrap_i64]; omega))⟩
    · have hlt3 : ¬ (m : Int) < (i : Int) := of_decide_eq_false hlt3
      obtain rfl : m = i := by omega
      have hel : (ents av m).length = m := by unfold ents; simp
      have er := ent_own ow
      have hcl := lay_ok (fun _ => 0) q a c (ents av m) (fun y hy => by
        unfold ents at hy
        obtain ⟨k, hk, rfl⟩ := List.mem_map.1 hy
        have := List.mem_range.1 hk
        show k < 64
        omega) (by omega) hB er
      rw [hel] at hcl
      refine call_of hcl ?_
      rintro v hC ⟨rfl, nC⟩
      have hlp : layP av q = (layF q (fun _ => 0) (ents av m) 0, layF q (fun _ => 0) (ents av m) 1, layF q (fun _ => 0) (ents av m) 2, layF q (fun _ => 0) (ents av m) 3) := by unfold layP; rw [hal]
      refine ⟨layP av q, by rw [hlp]; rfl, call_of (Body.ofPlaces_ok (layP av q) hC) ?_⟩
      rintro v hD ⟨pa, pb, rfl, po, nD⟩
      have nAD := (nB.trans nC).trans nD
      have SD := SA.new nAD
      have hA1 := SA.b1.lt
      have hs1 := (nB.trans nC).size
      refine ⟨(pa, _, pb), rfl, ?_⟩
      refine callW_of (first := #[]) (cap := #[ptr h5.size, ptr h6.size, ptr h.size]) (put17_ok (g := (m : Int)) SD.puts (by omega) 3 (by decide) q (by omega) pa pb (Body.plsB (layP av q)) (Body.plsB_len _) t hD SD.rep (own_sl po (Body.plsB_byt _)) SD.b0 SD.b1 (geo hD SD.base) SD.t1 SD.n01 (by have := SD.l1; omega)
        (fun e => by have := (OwnH.blk_ge po _ e).1; omega)) ?_
      rintro v hE ⟨rfl, D', t', P', r', b', k'⟩
      have SE := SD.put P' r' b' k'
      have bpE := k'.blk (bp.new nAD) (by rw [tp]; decide) (by omega)
      refine ⟨(log.length : Int) + 1, rfl, ?_⟩
      refine ⟨⟨by omega, rfl⟩, ?_⟩
      rw [Int.toNat_natCast, Nat.mul_one, add_mk, Nat.zero_add]
      refine st_blk bpE (by rw [rowA_size]; omega) fun hF bF oF => ?_
      have bF : Blk hF h9.size (rowA (pl.set q ((log.length : Int) + 1))) 22 := by rw [← rowA_set]; exact bF
      have tpE : (t' h9.size).1 = 3 := by rw [k'.tags _ (bp.new nAD).lt]; exact tp
      refine ⟨⟨q + 1, D', _, _, _, t', (by first | (rw [wr64 (by omega) (by omega)]; omega) | (simp only [IntKind.wrap_i64]; omega)), hqT, by rw [List.length_append]; simp; omega, ⟨SE.puts, PRep.mine SE.rep tpE oF.upd, oF.upd.new SE.base h49, SE.tag, SE.b0.only oF (by omega), SE.b1.only oF (by omega), SE.bv.only oF (by omega), SE.t0, SE.t1, SE.tv, SE.l1, SE.lv, SE.n01, SE.n0v, SE.n1v⟩, AA.more _, BA.put, bF, tpE⟩, (by dsimp only; first | (rw [wr64 (by omega) (by omega)]; omega) | (rw [wr64 (by omega) (by omega), wr64 (by omega) (by omega)]; omega) | (simp only [IntKind.wrap_i64]; omega))⟩
  have hlt2 : ¬ (q : Int) < (T : Int) := of_decide_eq_false hlt2
  obtain rfl : q = T := by omega
  have hdx := addr_lt2 (show log.length < 1000 by omega) BA
  have hpy : ∀ k : Nat, k < q → plM (zc : Int) (pc : Int) D pl (k : Int) = (layP av k, 0) := fun k hk => places_yes SA.puts (by omega) hav BA k hk
  have hfl := flat_yes (z := (zc : Int)) (p := (pc : Int)) (D := D) (pl := pl) q hpy
  obtain ⟨ft, fd⟩ := flat_take (av := av) (n := q) hal (by omega)
  rw [← hfl] at ft fd
  have pr : Ar .u32 hA (some ⟨h9.size, 0, none⟩) pl := Ar.blk bp
  have hA9 := bp.lt
  have hAv := SA.bv.lt
  refine ld_of (c := .ptr) (some ⟨b, 0, none⟩) (by rw [cellH_blk SA.b0]; rfl) (call_of (ops_ok hA SA.rep) ?_)
  rintro v h' ⟨rfl, hh⟩; subst h'
  have call := all_ok SA.puts.gok SA.puts.up (i : Int) (by omega) (some ⟨h9.size, 0, none⟩) q pl (by omega) hdx hA SA.rep pr (fun k hk => by rw [hpy k (by omega)]) (by rw [hpl, Int.toNat_natCast]; exact fd)
  rw [hpl] at call
  refine ⟨D.ops, rfl, ld_of (c := .ptr) (some ⟨b, 0, none⟩) (by rw [cellH_blk SA.b0]; rfl) (ldAgg_blk ((zc : Int), (pc : Int), (i : Int)) (geo hA SA.base) ⟨rfl, rfl, rfl, trivial⟩ (call_of call ?_))⟩
  rintro v hB ⟨nB, aa, ac, rfl, arB, hab⟩
  rw [hpl, Int.toNat_natCast, ft] at arB
  have SB := SA.new nB
  refine ⟨((aa, i, ac), .nilIface), rfl, cut_q (ts := []) (fun _ h' => New hA h') ?_ fun K kk => ?_⟩
  rotate_left
  · have cn := rnumbers_ok aa (some ⟨h7.size, 0, none⟩) ac i av av hB (by omega) arB SB.ar
    rw [hal] at cn
    refine ⟨.inl rfl, br_f rfl (call_of cn ?_)⟩
    rintro v h' ⟨rfl, hh⟩; subst h'
    have cs := sound_ok SB.puts.gok SB.puts.up (i : Int) (by omega) (some ⟨h9.size, 0, none⟩) (some ⟨h7.size, 0, none⟩) q i pl av (by omega) (by omega) hdx hav hB SB.rep (pr.new nB) SB.ar
      (fun y hy => by have : h9.size = y := Option.some.inj hy
                      have := nB.size; omega) (fun y hy => by have : h7.size = y := Option.some.inj hy
                                                              have := nB.size; omega)
    rw [hpl, hal] at cs
    refine ⟨_, rfl, br_f (by simp) (ld_of (c := .ptr) (some ⟨b, 0, none⟩) (by rw [cellH_blk SB.b0]; rfl) (ldAgg_blk ((zc : Int), (pc : Int), (i : Int)) (geo hB SB.base) ⟨rfl, rfl, rfl, trivial⟩ (call_of cs ?_)))⟩
    rintro v hC ⟨nC, l, he⟩
    rw [if_pos (sound_yes SB.puts (by omega) (by omega) AA BA)] at he
    obtain rfl := nil_of he
    have SC := SB.new nC
    refine ⟨.nilIface, rfl, .inl rfl, br_f rfl (ld_of (c := .ptr) (some ⟨b, 0, none⟩) (by rw [cellH_blk SC.b0]; rfl) (call_of (ops_ok hC SC.rep) ?_))⟩
    rintro v h' ⟨rfl, hh⟩; subst h'
    exact ⟨D.ops, rfl, br_f (by simp) (kk () hC (nB.trans nC))⟩
  rintro _ hC nC _
  have SC := SA.new nC
  have N : New h hC := n04.trans SC.base
  refine cut_q (ts := []) (fun _ h' => h' = hC ∧ 0 ≤ tw ∧ tw < (i : Int) ∧ av.getD tw.toNat 0 ≠ 0) ?_ fun K kk => ?_
  rotate_left
  · refine br_of (fun _ => ⟨rfl, N⟩) fun h0 => ld_of (c := .int .i64) (i : Int) (g2 hC SC.base) (br_of (fun _ => ⟨rfl, N⟩) fun h1 => ?_)
    have h0 := of_decide_eq_false h0
    have h1 := of_decide_eq_false h1
    obtain ⟨w, hw⟩ := Int.eq_ofNat_of_zero_le (show 0 ≤ tw by omega)
    rw [hw] at h1 ⊢
    have hwL : w < av.length := by omega
    refine ix_ld SC.ar hwL (by omega) (br_of (fun _ => ⟨rfl, N⟩) fun h2 => kk () hC ⟨rfl, by omega, by omega, ?_⟩)
    rw [hw, Int.toNat_natCast, List.getD_eq_getElem?_getD, List.getElem?_eq_getElem hwL]
    simpa using h2
  rintro _ h' ⟨hh, h0, h1, h2⟩ _; subst h'
  obtain ⟨w, rfl⟩ := Int.eq_ofNat_of_zero_le h0
  have hwL : w < av.length := by omega
  rw [Int.toNat_natCast, List.getD_eq_getElem?_getD, List.getElem?_eq_getElem hwL] at h2
  have h2 : av[w] ≠ 0 := h2
  have em : Int.tmod (IntKind.wrap .i64 ((w : Int) + 1)) (i : Int) = (((w + 1) % i : Nat) : Int) := by
    rw [show IntKind.wrap .i64 ((w : Int) + 1) = ((w + 1 : Nat) : Int) by rw [wr64 (by omega) (by omega)]; omega]
    exact tmod_nat
  have hck : (!decide ((i : Int) = 0)) = true := by simp; omega
  refine ld_of (c := .int .i64) (i : Int) (g2 hC SC.base) (ckB_of hck ?_)
  refine ix_ld SC.ar hwL (by omega) ?_
  rw [em]
  have hk : (w + 1) % i < i := Nat.mod_lt _ (by omega)
  refine SC.set (by omega) hk _ fun hD SD oD => ?_
  have ND : New h hD := n04.trans SD.base
  refine ld_of (c := .int .i64) (i : Int) (g2 hD SD.base) (br_of (fun _ => ⟨rfl, ND⟩) fun hi1 => ?_)
  have hi1 : ¬ (i : Int) = 1 := by simpa using hi1
  have hne : (w + 1) % i ≠ w := by
    by_cases e : w + 1 < i
    · rw [Nat.mod_eq_of_lt e]; omega
    · rw [show w + 1 = i by omega, Nat.mod_self]; omega
  have has : ∀ x ∈ av.set ((w + 1) % i) av[w], 0 ≤ x ∧ x < 4294967296 := fun x hx => by
    rcases List.mem_or_eq_of_mem_set hx with e | e
    · exact hav x e
    · rw [e]; exact hav _ (List.getElem_mem hwL)
  have hsl : (av.set ((w + 1) % i) av[w]).length = i := by rw [List.length_set]; exact hal
  have hCs := nC.size
  have cs := sound_ok SD.puts.gok SD.puts.up (i : Int) (by omega) (some ⟨h9.size, 0, none⟩) (some ⟨h7.size, 0, none⟩) q i pl _ (by omega) (by omega) hdx has hD SD.rep (Ar.blk ((bp.new nC).only oD (by omega))) SD.ar
      (fun y hy => by have : h9.size = y := Option.some.inj hy
                      have := oD.size; omega) (fun y hy => by have : h7.size = y := Option.some.inj hy
                                                              have := oD.size; omega)
  rw [hpl, hsl] at cs
  refine ld_of (c := .ptr) (some ⟨b, 0, none⟩) (by rw [cellH_blk SD.b0]; rfl) (ldAgg_blk ((zc : Int), (pc : Int), (i : Int)) (geo hD SD.base) ⟨rfl, rfl, rfl, trivial⟩ (call_of cs ?_))
  rintro v hE ⟨nE, l, he⟩
  rw [if_neg (by rw [sound_no SD.puts (by omega) AA (List.getElem?_eq_getElem hwL) h2 hk hne]; simp)] at he
  refine ⟨v, rfl, call_of (fis_ok v l 10 10 hE he) ?_⟩
  rintro v h' ⟨rfl, hh⟩; subst h'
  exact ⟨_, rfl, rfl, ND.trans nE⟩
end Go.Proofs.YthimfpkkdhpceaaDoor.Dir
