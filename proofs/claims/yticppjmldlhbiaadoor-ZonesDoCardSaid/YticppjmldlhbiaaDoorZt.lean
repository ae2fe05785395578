/-
  Package zones: the table, and what its methods do.
-/
import Derived.Test.YticppjmldlhbiaaDoorDel2
namespace Go.Proofs.YticppjmldlhbiaaDoor.Zo
open Go.Pl Go.Proofs.YticppjmldlhbiaaDoor.W
abbrev TT : TypeId := 94
abbrev fn1 : Value := .func (.func 47) #[] #[]
abbrev fn2 : Value := .func (.func 48) #[] #[]
def tbA (g n : Nat) (fa : Option Addr) (fl fc : Nat) (ca : Option Addr) (cl cc : Nat) (k : Int) : Array Value := #[.slice (some ⟨g, 0, none⟩) n n, .slice fa fl fc, fn1, .slice ca cl cc, fn2, .int .u32 k]
/-- A heap, and blocks of it that stay. -/
structure Bs where
  h : Heap
  X : Nat → Prop
  ok : ∀ b, X b → b < h.size
def Bs.At (s : Bs) (h' : Heap) : Prop := s.h.size ≤ h'.size ∧ ∀ b, s.X b → h'[b]? = s.h[b]?
def Bs.Out (s : Bs) (b : Nat) : Prop := ¬ s.X b
/-- All that is there stays. -/
def Bs.of (h : Heap) : Bs := ⟨h, fun b => b < h.size, fun _ hb => hb⟩
theorem Bs.of_at {h h' : Heap} : (Bs.of h).At h' ↔ New h h' := ⟨fun n => ⟨n.1, n.2⟩, fun n => ⟨n.size, n.same⟩⟩
theorem Bs.of_out {h : Heap} {b : Nat} : (Bs.of h).Out b ↔ h.size ≤ b := Nat.not_lt
theorem Bs.At.trans {s : Bs} {h h' : Heap} (a : s.At h) (n : New h h') : s.At h' := ⟨Nat.le_trans a.1 n.size, fun b hb => (n.same b (Nat.lt_of_lt_of_le (s.ok b hb) a.1)).trans (a.2 b hb)⟩
theorem Bs.At.out {s : Bs} {h : Heap} {b : Nat} (a : s.At h) (hb : h.size ≤ b) : s.Out b := fun hx => by have := s.ok b hx; have := a.1; omega
/-- The table whose block is T: its states, its free zones, its closings, how many were closed. -/
structure TbAt (h0 : Bs) (h : Heap) (T g : Nat) (fa : Option Addr) (fc : Nat) (ca : Option Addr) (cc : Nat) (S F : List Int) (C : List (Int × Int)) (k : Int) : Prop where
  blk : Blk h T (tbA g S.length fa F.length fc ca C.length cc k) TT
  st : Blk h g (iv S).toArray TI
  fr : OwnH h 0 TI 1 fa F.length fc (iv F)
  cl : OwnH h 0 TC 2 ca C.length cc (cv C)
  new : h0.At h
  gT : h0.Out T
  gg : h0.Out g
  neT : T ≠ g
  ff : ∀ b, blkOf fa = some b → h0.Out b ∧ b ≠ T ∧ b ≠ g
  cf : ∀ b, blkOf ca = some b → h0.Out b ∧ b ≠ T ∧ b ≠ g ∧ blkOf fa ≠ some b
def Tb (h0 : Bs) (h : Heap) (T : Nat) (S F : List Int) (C : List (Int × Int)) (k : Int) : Prop := ∃ g fa fc ca cc, TbAt h0 h T g fa fc ca cc S F C k
theorem TbAt.to {h0 : Bs} {h h' : Heap} {T g : Nat} {fa : Option Addr} {fc : Nat} {ca : Option Addr} {cc : Nat} {S F : List Int} {C : List (Int × Int)} {k : Int} (t : TbAt h0 h T g fa fc ca cc S F C k) (n : New h h') : TbAt h0 h' T g fa fc ca cc S F C k :=
  ⟨t.blk.new n, t.st.new n, t.fr.grow n, t.cl.grow n, t.new.trans n, t.gT, t.gg, t.neT, t.ff, t.cf⟩
theorem Tb.to {h0 : Bs} {h h' : Heap} {T : Nat} {S F : List Int} {C : List (Int × Int)} {k : Int} (t : Tb h0 h T S F C k) (n : New h h') : Tb h0 h' T S F C k := by
  obtain ⟨g, fa, fc, ca, cc, t⟩ := t; exact ⟨g, fa, fc, ca, cc, t.to n⟩
theorem ap49 : apB Tryd.prog 49 TI 1 8 = true := by kernel_rfl
theorem ap89 : apB Tryd.prog 89 TC 2 16 = true := by kernel_rfl
theorem blkO {h h' : Heap} {r : Option Nat} {b : Nat} {arr : Array Value} {X : TypeId} (hb : Blk h b arr X) (u : UpdO r h h') (hne : r ≠ some b) : Blk h' b arr X := (u.same b hb.lt fun e => hne e.symm).trans hb
theorem ownO {h h' : Heap} {r : Option Nat} {e : TypeId} {size n c : Nat} {a : Option Addr} {xs : List Value} (o : OwnH h 0 e size a n c xs) (u : UpdO r h h') (hne : ∀ b, blkOf a = some b → r ≠ some b) : OwnH h' 0 e size a n c xs := o.keep fun g _ _ hg hb => u.same g hg.lt fun e => hne g hb e.symm
theorem newO {h0 : Bs} {h h' : Heap} {r : Option Nat} (n : h0.At h) (u : UpdO r h h') (hr : ∀ b, r = some b → h0.Out b) : h0.At h' := ⟨Nat.le_trans n.1 u.size, fun b hb => (u.same b (Nat.lt_of_lt_of_le (h0.ok b hb) n.1) fun e => hr b e.symm hb).trans (n.2 b hb)⟩
section
variable {h0 : Bs} {h : Heap} {T g : Nat} {fa : Option Addr} {fc : Nat} {ca : Option Addr} {cc : Nat} {S F : List Int} {C : List (Int × Int)} {k : Int}
/-- The free row is another one. -/
theorem TbAt.setF {h1 h2 : Heap} {fa' : Option Addr} {fc' : Nat} {F' : List Int} (t : TbAt h0 h T g fa fc ca cc S F C k) (u : UpdO (blkOf fa) h h1) (o : OwnH h1 0 TI 1 fa' F'.length fc' (iv F')) (ha : blkOf fa' = blkOf fa ∨ ∃ b, blkOf fa' = some b ∧ h.size ≤ b)
    (b2 : Blk h2 T (tbA g S.length fa' F'.length fc' ca C.length cc k) TT) (o2 : Only T h1 h2) : TbAt h0 h2 T g fa' fc' ca cc S F' C k := by
  have hT := t.blk.lt; have hg := t.st.lt
  have hff : ∀ b, blkOf fa' = some b → h0.Out b ∧ b ≠ T ∧ b ≠ g := fun b hb => by
    rcases ha with e | ⟨b', e, hb'⟩
    · exact t.ff b (by rw [← e]; exact hb)
    · rw [e] at hb; injection hb with hb; subst hb; exact ⟨t.new.out hb', by omega, by omega⟩
  have hcl := t.cl.blk_ge
  have hcf : ∀ b, blkOf ca = some b → h0.Out b ∧ b ≠ T ∧ b ≠ g ∧ blkOf fa' ≠ some b := fun b hb => by
    obtain ⟨h1, h2, h3, h4⟩ := t.cf b hb
    refine ⟨h1, h2, h3, fun e => ?_⟩
    rcases ha with e' | ⟨b', e', hb'⟩
    · exact h4 (by rw [← e']; exact e)
    · rw [e'] at e; injection e with e; subst e; have := (hcl _ hb).2; omega
  have u2 : UpdO (some T) h1 h2 := ⟨by rw [o2.size]; exact Nat.le_refl _, fun m hm hne => o2.same m fun e => hne (by rw [e])⟩
  exact ⟨b2, (blkO t.st u fun e => (t.ff g e).2.2 rfl).only o2 t.neT.symm, ownO o u2 fun b hb e => by injection e with e; exact (hff b hb).2.1 e.symm,
    ownO (ownO t.cl u fun b hb e => (t.cf b hb).2.2.2 e) u2 fun b hb e => by (injection e with e; exact (hcf b hb).2.1 e.symm), newO (newO t.new u fun b hb => (t.ff b hb).1) u2 fun b hb => by (injection hb with hb; rw [← hb]; exact t.gT), t.gT, t.gg, t.neT, hff, hcf⟩
/-- The closed row is another one. -/
theorem TbAt.setC {h1 h2 : Heap} {ca' : Option Addr} {cc' : Nat} {C' : List (Int × Int)} {k' : Int} (t : TbAt h0 h T g fa fc ca cc S F C k) (u : UpdO (blkOf ca) h h1) (o : OwnH h1 0 TC 2 ca' C'.length cc' (cv C')) (ha : blkOf ca' = blkOf ca ∨ ∃ b, blkOf ca' = some b ∧ h.size ≤ b)
    (b2 : Blk h2 T (tbA g S.length fa F.length fc ca' C'.length cc' k') TT) (o2 : Only T h1 h2) : TbAt h0 h2 T g fa fc ca' cc' S F C' k' := by
  have hT := t.blk.lt; have hg := t.st.lt
  have hfr := t.fr.blk_ge
  have hcf : ∀ b, blkOf ca' = some b → h0.Out b ∧ b ≠ T ∧ b ≠ g ∧ blkOf fa ≠ some b := fun b hb => by
    rcases ha with e | ⟨b', e, hb'⟩
    · exact t.cf b (by rw [← e]; exact hb)
    · rw [e] at hb; injection hb with hb; subst hb
      exact ⟨t.new.out hb', by omega, by omega, fun e => by have := (hfr _ e).2; omega⟩
  have u2 : UpdO (some T) h1 h2 := ⟨by rw [o2.size]; exact Nat.le_refl _, fun m hm hne => o2.same m fun e => hne (by rw [e])⟩
  exact ⟨b2, (blkO t.st u fun e => (t.cf g e).2.2.1 rfl).only o2 t.neT.symm, ownO (ownO t.fr u fun b hb e => (t.cf b e).2.2.2 hb) u2 fun b hb e => by (injection e with e; exact (t.ff b hb).2.1 e.symm),
    ownO o u2 fun b hb e => by (injection e with e; exact (hcf b hb).2.1 e.symm), newO (newO t.new u fun b hb => (t.cf b hb).1) u2 fun b hb => by (injection hb with hb; rw [← hb]; exact t.gT), t.gT, t.gg, t.neT, t.ff, hcf⟩
/-- A state is told anew. -/
theorem TbAt.setS {h1 : Heap} {z : Nat} {v : Int} (t : TbAt h0 h T g fa fc ca cc S F C k) (b1 : Blk h1 g ((iv S).toArray.setIfInBounds z (.int .i64 v)) TI) (o1 : Only g h h1) : TbAt h0 h1 T g fa fc ca cc (S.set z v) F C k := by
  have u1 : UpdO (some g) h h1 := ⟨by rw [o1.size]; exact Nat.le_refl _, fun m hm hne => o1.same m fun e => hne (by rw [e])⟩
  have e : (iv S).toArray.setIfInBounds z (.int .i64 v) = (iv (S.set z v)).toArray := by simp [iv, List.map_set]
  rw [e] at b1
  exact ⟨by rw [List.length_set]; exact t.blk.only o1 t.neT, b1, ownO t.fr u1 fun b hb e => by (injection e with e; exact (t.ff b hb).2.2 e.symm), ownO t.cl u1 fun b hb e => by (injection e with e; exact (t.cf b hb).2.2.1 e.symm),
    newO t.new u1 fun b hb => by (injection hb with hb; rw [← hb]; exact t.gg), t.gT, t.gg, t.neT, t.ff, t.cf⟩
end
section
variable {h0 : Bs} {h : Heap} {T : Nat} {S F : List Int} {C : List (Int × Int)} {k : Int}
theorem put_ok (x : Int) (t : Tb h0 h T S F C k) (hF : F.length ≤ 1000) : CallsH Tryd.prog 49 [.pointer (some ⟨T, 1, none⟩), .int .i64 x] h fun v h' => v = .tuple #[] ∧ Tb h0 h' T S (F ++ [x]) C k := by
  refine fun_ok hm' Tryd.func49 (by kernel_rfl) (F49_eq _ _ _ h) ?_
  unfold F49
  obtain ⟨g, fa, fc, ca, cc, t⟩ := t
  refine ld_of (c := .slice) (fa, F.length, fc) (by rw [add_mk, cellH_blk t.blk]; rfl) (new_of fun h1 b1 n1 s1 => ?_)
  have t1 := t.to n1
  refine ap_row ap49 (.inl t1.fr) (m := 1) [.int .i64 x] rfl (fun j u hu => ?_) (fun u hu => by rw [List.mem_singleton] at hu; subst hu; rfl) (by simp only [maxLen]; omega) (by omega) fun a2 c2 h2 r2 w ow => ?_
  · have hj : j = 0 := by have : j < 1 := (List.getElem?_eq_some_iff.1 hu).1; omega
    subst hj
    rw [add_mk, cellH_blk b1]; simpa using hu
  have ow := ow (by omega)
  have e1 : iv F ++ [Value.int .i64 x] = iv (F ++ [x]) := by simp [iv]
  have e2 : F.length + 1 = (F ++ [x]).length := by simp
  rw [e1, e2] at ow
  have b2 := blkO t1.blk w.upd fun e => (t1.ff T e).2.1 rfl
  refine st_blk b2 (by show 1 < 6; omega) fun h3 b3 o3 => ⟨rfl, g, a2, c2, ca, cc, TbAt.setF t1 w.upd ow ?_ (by rw [← e2]; exact b3) o3⟩
  rcases w.at_ with e | ⟨b, e, hb, _⟩
  · exact .inl e
  · exact .inr ⟨b, e, hb⟩
theorem put2_ok (x b : Int) (t : Tb h0 h T S F C k) (hC : C.length ≤ 1000) : CallsH Tryd.prog 64 [.pointer (some ⟨T, 3, none⟩), .agg #[.int .i64 x, .int .u32 b]] h fun v h' => v = .tuple #[] ∧ Tb h0 h' T S F (C ++ [(x, b)]) k := by
  refine fun_ok hm' Tryd.func64 (by kernel_rfl) (F64_eq _ _ _ _ h) ?_
  unfold F64
  obtain ⟨g, fa, fc, ca, cc, t⟩ := t
  refine new_of fun h1 b1 n1 s1 => ld_of (c := .slice) (ca, C.length, cc) (by rw [add_mk, cellH_blk (t.to n1).blk]; rfl) (ldAgg_blk (x, b) b1 ⟨rfl, rfl, trivial⟩ (new_of fun h2 b2 n2 s2 => ?_))
  have t1 := (t.to n1).to n2
  refine ap_row ap89 (.inl t1.cl) (m := 1) (c2 (x, b)) rfl (fun j u hu => ?_) (fun u hu => by simp [c2] at hu; rcases hu with rfl | rfl <;> rfl) (by simp only [maxLen]; omega) (by omega) fun a2 c2' h2 r2 w ow => ?_
  · rw [add_mk, cellH_blk b2, Nat.zero_add, ← Array.getElem?_toList]; exact hu
  have ow := ow (by omega)
  have e1 : cv C ++ c2 (x, b) = cv (C ++ [(x, b)]) := by rw [cv_app]; simp [cv]
  have e2 : C.length + 1 = (C ++ [(x, b)]).length := by simp
  rw [e1, e2] at ow
  have b3 := blkO t1.blk w.upd fun e => (t1.cf T e).2.1 rfl
  refine st_blk b3 (by show 3 < 6; omega) fun h3 b4 o3 => ⟨rfl, g, fa, fc, a2, c2', TbAt.setC t1 w.upd ow ?_ (by rw [← e2]; exact b4) o3⟩
  rcases w.at_ with e | ⟨b, e, hb, _⟩
  · exact .inl e
  · exact .inr ⟨b, e, hb⟩
theorem drop_ok (x : Int) (t : Tb h0 h T S F C k) (hF : F.length ≤ 1000) : CallsH Tryd.prog 63 [.pointer (some ⟨T, 1, none⟩), .int .i64 x] h fun v h' => v = .tuple #[] ∧ Tb h0 h' T S (F.filter fun y => !(x == y)) C k := by
  refine fun_ok hm' Tryd.func63 (by kernel_rfl) (F63_eq _ _ _ h) ?_
  unfold F63
  obtain ⟨g, fa, fc, ca, cc, t⟩ := t
  refine new_of fun h1 b1 n1 s1 => new_of fun h2 b2 n2 s2 => ?_
  have t2 := (t.to n1).to n2
  have b1' := b1.new n2
  have hfr := t.fr.blk_ge
  refine ld_of (c := .ptr) (some ⟨T, 1, none⟩) (by rw [cellH_blk b1']; rfl) (ld_of (c := .ptr) (some ⟨T, 1, none⟩) (by rw [cellH_blk b1']; rfl) (ptr_of (ld_of (c := .slice) (fa, F.length, fc) (by rw [add_mk, cellH_blk t2.blk]; rfl) ?_)))
  have asks : Asks (blkOf fa) h2 (.func (.func 72) #[] #[.pointer (some ⟨h.size, 0, none⟩), .pointer (some ⟨h1.size, 0, none⟩)]) fun y => x == y := by
    refine ⟨_, _, rfl, fun y h3 u3 => ?_⟩
    refine fun_ok hm' Tryd.func72 (by kernel_rfl) (F72_eq y ⟨h.size, 0, none⟩ ⟨h1.size, 0, none⟩ _ h3) ?_
    unfold F72
    have c1 := blkO b1' u3 fun e => by have := (hfr _ e).2; omega
    have c3 := blkO b2 u3 fun e => by have := (hfr _ e).2; omega
    have cT := blkO t2.blk u3 fun e => (t2.ff T e).2.1 rfl
    refine ld_of (c := .ptr) (some ⟨T, 1, none⟩) (by rw [cellH_blk c1]; rfl) (ptr_of (ld_of (c := .any) fn1 (by rw [add_mk, cellH_blk cT]; rfl) (ld_of (c := .int .i64) x (by rw [cellH_blk c3]; rfl) ?_)))
    refine callW_of (first := #[]) (cap := #[]) (R := fun v h' => v = .bool (x == y) ∧ h' = h3) ?_ ?_
    · refine fun_ok hm' Tryd.func47 (by kernel_rfl) (F47_eq x y _ h3) ?_
      unfold F47
      exact ⟨rfl, rfl⟩
    · rintro v h' ⟨rfl, hh⟩; subst h'
      exact ⟨(x == y), rfl, rfl, New.refl h3⟩
  refine call_of (del_ok h2 t2.fr hF asks) ?_
  rintro v h3 ⟨rfl, o3, u3⟩
  have c1 := blkO b1' u3 fun e => by have := (hfr _ e).2; omega
  have cT := blkO t2.blk u3 fun e => (t2.ff T e).2.1 rfl
  refine ⟨(fa, (F.filter fun y => !(x == y)).length, fc), rfl, by rw [cellH_blk c1]; rfl, ptr_of ?_⟩
  exact st_blk cT (by show 1 < 6; omega) fun h4 b4 o4 => ⟨rfl, g, fa, fc, ca, cc, TbAt.setF t2 u3 o3 (.inl rfl) b4 o4⟩
theorem drop2_ok (x b : Int) (t : Tb h0 h T S F C k) (hC : C.length ≤ 1000) : CallsH Tryd.prog 65 [.pointer (some ⟨T, 3, none⟩), .agg #[.int .i64 x, .int .u32 b]] h fun v h' => v = .tuple #[] ∧ Tb h0 h' T S F (C.filter fun y => !(x == y.1)) k := by
  refine fun_ok hm' Tryd.func65 (by kernel_rfl) (F65_eq _ _ _ _ h) ?_
  unfold F65
  obtain ⟨g, fa, fc, ca, cc, t⟩ := t
  refine new_of fun h1 b1 n1 s1 => new_of fun h2 b2 n2 s2 => ?_
  have t2 := (t.to n1).to n2
  have b1' := b1.new n2
  have hcl := t.cl.blk_ge
  refine ld_of (c := .ptr) (some ⟨T, 3, none⟩) (by rw [cellH_blk b1']; rfl) (ld_of (c := .ptr) (some ⟨T, 3, none⟩) (by rw [cellH_blk b1']; rfl) (ptr_of (ld_of (c := .slice) (ca, C.length, cc) (by rw [add_mk, cellH_blk t2.blk]; rfl) ?_)))
  have asks : Asks2 (blkOf ca) h2 (.func (.func 74) #[] #[.pointer (some ⟨h.size, 0, none⟩), .pointer (some ⟨h1.size, 0, none⟩)]) fun y => x == y.1 := by
    refine ⟨_, _, rfl, fun y h3 u3 => ?_⟩
    refine fun_ok hm' Tryd.func74 (by kernel_rfl) (F74_eq y.1 y.2 ⟨h.size, 0, none⟩ ⟨h1.size, 0, none⟩ _ h3) ?_
    unfold F74
    refine new_of fun h4 b4 n4 s4 => ?_
    have c1 := (blkO b1' u3 fun e => by have := (hcl _ e).2; omega).new n4
    have c3 := (blkO b2 u3 fun e => by have := (hcl _ e).2; omega).new n4
    have cT := (blkO t2.blk u3 fun e => (t2.cf T e).2.1 rfl).new n4
    refine ld_of (c := .ptr) (some ⟨T, 3, none⟩) (by rw [cellH_blk c1]; rfl) (ptr_of (ld_of (c := .any) fn2 (by rw [add_mk, cellH_blk cT]; rfl) (ldAgg_blk (x, b) c3 ⟨rfl, rfl, trivial⟩ (ldAgg_blk (y.1, y.2) b4 ⟨rfl, rfl, trivial⟩ ?_))))
    refine callW_of (first := #[]) (cap := #[]) (R := fun v h' => v = .bool (x == y.1) ∧ New h4 h') ?_ ?_
    · refine fun_ok hm' Tryd.func48 (by kernel_rfl) (F48_eq x b y.1 y.2 _ h4) ?_
      unfold F48
      refine new_of fun h5 b5 n5 s5 => new_of fun h6 b6 n6 s6 => ld_of (c := .int .i64) x (by rw [add_mk, cellH_blk (b5.new n6)]; rfl) (ld_of (c := .int .i64) y.1 (by rw [add_mk, cellH_blk b6]; rfl) ⟨rfl, n5.trans n6⟩)
    · rintro v h' ⟨rfl, n5⟩
      exact ⟨(x == y.1), rfl, rfl, n4.trans n5⟩
  refine call_of (del2_ok h2 t2.cl hC asks) ?_
  rintro v h3 ⟨rfl, o3, u3⟩
  have c1 := blkO b1' u3 fun e => by have := (hcl _ e).2; omega
  have cT := blkO t2.blk u3 fun e => (t2.cf T e).2.1 rfl
  refine ⟨(ca, (C.filter fun y => !(x == y.1)).length, cc), rfl, by rw [cellH_blk c1]; rfl, ptr_of ?_⟩
  exact st_blk cT (by show 3 < 6; omega) fun h4 b4 o4 => ⟨rfl, g, fa, fc, ca, cc, TbAt.setC t2 u3 o3 (.inl rfl) b4 o4⟩
end
end Go.Proofs.YticppjmldlhbiaaDoor.Zo
