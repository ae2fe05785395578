/-
  CacheDoes of layer 10.
-/
import Derived.Test.YtfanjfbenhocnaaGreatDoorCaU
import Derived.Test.YtfanjfbenhocnaaGreatDoorAs
import Derived.Test.YtfanjfbenhocnaaGreatDoorWL10Z
namespace Go.Proofs.YtfanjfbenhocnaaGreatDoor.Ca
open Go.Pl Go.Pl.Lru Go.Pl.Ix Go.Proofs.YtfanjfbenhocnaaGreatDoor.W Go.Proofs.YtfanjfbenhocnaaGreatDoor.Lru Go.Proofs.YtfanjfbenhocnaaGreatDoor.IxS
open Go.Proofs.YtfanjfbenhocnaaGreatDoor.As (Laid code_err)
theorem rpeekN {k q S : Nat} {t : Tags} {h : Heap} {c : Cm} (x : Int) (a : RRep k t h q S c) :
    CallsH Tryz.prog 36 [ptr q, .int .i64 x] h fun v h' => v = .tuple #[.int .u32 (peekC c x).1, .bool (peekC c x).2] ∧ New h h' :=
  (rpeek_ok x a).mono fun _ _ ⟨h1, h2⟩ => ⟨h1, by rw [h2]; exact New.refl _⟩
theorem RActed.trans {k p S : Nat} {t t' : Tags} {h h' h2 : Heap} {c' : Cm} (f : Fr (fun q => q.1 ≠ k) t h t' h') (a : RActed k t' h' p S c' h2) : RActed k t h p S c' h2 := by
  obtain ⟨t2, r, f2⟩ := a; exact ⟨t2, r, f.trans f2⟩
/-- How it stands since h: the reference's cache, and who was turned. -/
structure RRun (k : Nat) (t : Tags) (h : Heap) (p S : Nat) (c : Cm) (t' : Tags) (h' : Heap) : Prop where
  rep : RRep k t' h' p S c
  fr : Fr (fun q => q.1 ≠ k) t h t' h'
section
variable {k S p : Nat} {t t1 : Tags} {h h1 h2 : Heap} {c c' : Cm}
theorem RRun.loc {b : Nat} (r : RRun k t h p S c t1 h1) (u : Upd b h1 h2) (hb : h.size ≤ b) (ht : (t1 b).1 ≠ k) : RRun k t h p S c t1 h2 := by
  have f := r.fr
  refine ⟨r.rep.fr' (Q := fun q => q.1 = k) (Fr.upd u ht) fun _ => rfl, ⟨Nat.le_trans f.size u.size, f.tags, fun x hx hk => ?_⟩⟩
  rw [u.same x (Nat.lt_of_lt_of_le hx f.size) (by omega), f.same x hx hk]
theorem RRun.new (r : RRun k t h p S c t1 h1) (n : New h1 h2) : RRun k t h p S c t1 h2 := ⟨r.rep.new n, r.fr.trans (Fr.new0 n)⟩
/-- New blocks are nobody's. -/
theorem RRun.lay0 (r : RRun k t h p S c t1 h1) (n : New h1 h2) : RRun k t h p S c (lay t1 h1.size (0, 0)) h2 := ⟨r.rep.fr' (Q := fun _ => True) (Fr.lay n _) fun _ => trivial, r.fr.trans (Fr.lay n _)⟩
theorem RRun.act (r : RRun k t h p S c t1 h1) (a : RActed k t1 h1 p S c' h2) : ∃ t2, RRun k t h p S c' t2 h2 ∧ (∀ b, b < h1.size → t2 b = t1 b) ∧ ∀ b, b < h1.size → (t1 b).1 ≠ k → h2[b]? = h1[b]? := by
  obtain ⟨t2, r2, f2⟩ := a
  exact ⟨t2, ⟨r2, r.fr.trans f2⟩, f2.tags, f2.same⟩
theorem RRun.acted (r : RRun k t h p S c t1 h1) : RActed k t h p S c h1 := ⟨t1, r.rep, r.fr⟩
end
section
variable {k S p : Nat} {t : Tags} {h : Heap} {c : Cm}
theorem zR : zeroC Tryz.prog TR = #[.int .i64 0, .int .u32 0, .bool false] := by kernel_rfl
/-- The end of an act: what is told is copied out. -/
theorem rtold_end {t1 : Tags} {h1 : Heap} {T5 T3 : TypeId} {z : Told} {a b : Nat} (r : RRun k t h p S c t1 h1) (b5 : Blk h1 b #[.int .u32 z.1, .bool z.2.1, .int .i64 z.2.2] T5) (b3 : Blk h1 a #[.int .u32 0, .bool false, .int .i64 0] T3) (ha : h.size ≤ a) (ht : (t1 a).1 ≠ k) {F : Value → Heap → Prop}
    (hF : ∀ h2, RActed k t h p S c h2 → F (toldV z) h2) :
    ldAggW [.int .u32, .bool, .int .i64] ⟨b, 0, none⟩ (fun (x : Int × Bool × Int) => stLW ⟨a, 0, none⟩ [.int .u32 x.1, .bool x.2.1, .int .i64 x.2.2] (fun h2 => ldAggW [.int .u32, .bool, .int .i64] ⟨a, 0, none⟩ (fun (y : Int × Bool × Int) => F (.agg #[.int .u32 y.1, .bool y.2.1, .int .i64 y.2.2]) h2) h2) h1) h1 := by
  refine ldAgg_blk (cs := [.int .u32, .bool, .int .i64]) (z : Int × Bool × Int) b5 ⟨rfl, rfl, rfl, trivial⟩ (stL_blk b3 (by simp) fun h2 b2 o2 => ?_)
  exact ldAgg_blk (cs := [.int .u32, .bool, .int .i64]) (z : Int × Bool × Int) b2 ⟨rfl, rfl, rfl, trivial⟩ (hF h2 (r.loc o2.upd ha ht).acted)
set_option maxHeartbeats 1000000 in
theorem own_ok (z : Az) (a : RRep k t h p S c) :
    CallsH Tryz.prog 9 [ptr p, .agg #[.int .i64 z.1, .int .i64 z.2.1, .int .u32 z.2.2.1, .bool z.2.2.2]] h fun v h' => v = toldV (actC S c z).1 ∧ RActed k t h p S (actC S c z).2 h' := by
  obtain ⟨d, x, ad, di⟩ := z
  have hk := a.own
  refine fun_ok hm' Tryz.func9 (by kernel_rfl) (F9_eq _ _ _ _ _ _ h) ?_
  unfold F9
  rw [zT]
  refine new_of fun h1 b1 n1 s1 => new_of fun h2 b2 n2 s2 => new_of fun h3 b3 n3 s3 => ?_
  have R0 : RRun k t h p S c t h := ⟨a, Fr.refl _ _ _⟩
  have R3 := R0.lay0 ((n1.trans n2).trans n3)
  have b1 := (b1.new n2).new n3
  have b2 := b2.new n3
  have T : ∀ {b}, h.size ≤ b → (lay t h.size (0, 0) b).1 ≠ k := fun hb => lay_0 hk hb
  generalize lay t h.size (0, 0) = t3 at *
  have f0 : ∀ {F : Int → Prop}, F d → ldW (.int .i64) (Addr.add ⟨h.size, 0, none⟩ 0) F h3 := fun hF => ld_of (c := .int .i64) d (by rw [add_mk, cellH_blk b1]; rfl) hF
  have f1 : ∀ {F : Int → Prop}, F x → ldW (.int .i64) (Addr.add ⟨h.size, 0, none⟩ 1) F h3 := fun hF => ld_of (c := .int .i64) x (by rw [add_mk, cellH_blk b1]; rfl) hF
  have f2 : ∀ {F : Int → Prop}, F ad → ldW (.int .u32) (Addr.add ⟨h.size, 0, none⟩ 2) F h3 := fun hF => ld_of (c := .int .u32) ad (by rw [add_mk, cellH_blk b1]; rfl) hF
  have f3 : ∀ {F : Bool → Prop}, F di → ldW .bool (Addr.add ⟨h.size, 0, none⟩ 3) F h3 := fun hF => ld_of (c := .bool) di (by rw [add_mk, cellH_blk b1]; rfl) hF
  -- what stays behind an act of the cache
  have act : ∀ {c' : Cm} {h4 : Heap}, RActed k t3 h3 p S c' h4 → ∃ t4, RRun k t h p S c' t4 h4 ∧ Blk h4 h1.size #[.int .u32 0, .bool false, .int .i64 0] 38 ∧ Blk h4 h2.size #[.int .u32 0, .bool false, .int .i64 0] 38 ∧ (∀ b, h.size ≤ b → b < h3.size → (t4 b).1 ≠ k) := fun {c' h4} ac => by
    obtain ⟨t4, R4, e4, k4⟩ := R3.act ac
    exact ⟨t4, R4, (k4 h1.size (by omega) (T (by omega))).trans b2, (k4 h2.size (by omega) (T (by omega))).trans b3, fun b hb hb3 => by rw [e4 b hb3]; exact T hb⟩
  have ne : h1.size ≠ h2.size := by omega
  -- one flag is stored, and told
  have flag : ∀ {c' : Cm} {h4 : Heap} {K : Value → Heap → Prop} (is : Bool), RActed k t3 h3 p S c' h4 → (∀ h5, RActed k t h p S c' h5 → K (toldV (0, is, 0)) h5) →
      stW (Addr.add ⟨h2.size, 0, none⟩ 1) (.bool is) (fun h29 => ldAggW [.int .u32, .bool, .int .i64] ⟨h2.size, 0, none⟩ (fun (x30 : Int × Bool × Int) => stLW ⟨h1.size, 0, none⟩ [.int .u32 x30.1, .bool x30.2.1, .int .i64 x30.2.2] (fun h31 => ldAggW [.int .u32, .bool, .int .i64] ⟨h1.size, 0, none⟩ (fun (x32 : Int × Bool × Int) => K (.agg #[.int .u32 x32.1, .bool x32.2.1, .int .i64 x32.2.2]) h31) h31) h29) h29) h4 := fun {c' h4 K} is ac hK => by
    obtain ⟨t4, R4, b24, b34, T4⟩ := act ac
    rw [add_mk]
    refine st_blk b34 (by simp) fun h5 b5 o5 => ?_
    exact rtold_end (z := (0, is, 0)) (R4.loc o5.upd (by omega) (T4 _ (by omega) (by omega))) b5 (b24.only o5 ne) (by omega) (T4 _ (by omega) (by omega)) hK
  have two : ∀ {c' : Cm} {h4 : Heap} {K : Value → Heap → Prop} (n : Int) (is : Bool), RActed k t3 h3 p S c' h4 → (∀ h5, RActed k t h p S c' h5 → K (toldV (n, is, 0)) h5) →
      stW (Addr.add ⟨h2.size, 0, none⟩ 0) (.int .u32 n) (fun h28 => stW (Addr.add ⟨h2.size, 0, none⟩ 1) (.bool is) (fun h29 => ldAggW [.int .u32, .bool, .int .i64] ⟨h2.size, 0, none⟩ (fun (x30 : Int × Bool × Int) => stLW ⟨h1.size, 0, none⟩ [.int .u32 x30.1, .bool x30.2.1, .int .i64 x30.2.2] (fun h31 => ldAggW [.int .u32, .bool, .int .i64] ⟨h1.size, 0, none⟩ (fun (x32 : Int × Bool × Int) => K (.agg #[.int .u32 x32.1, .bool x32.2.1, .int .i64 x32.2.2]) h31) h31) h29) h29) h28) h4 := fun {c' h4 K} n is ac hK => by
    obtain ⟨t4, R4, b24, b34, T4⟩ := act ac
    rw [add_mk, add_mk]
    refine st_blk b34 (by simp) fun h5 b5 o5 => st_blk b5 (by simp) fun h6 b6 o6 => ?_
    exact rtold_end (z := (n, is, 0)) ((R4.loc o5.upd (by omega) (T4 _ (by omega) (by omega))).loc o6.upd (by omega) (T4 _ (by omega) (by omega))) b6 ((b24.only o5 ne).only o6 ne) (by omega) (T4 _ (by omega) (by omega)) hK
  have P : ∀ {n : Int}, (d == n) = true → d = n := fun h => by simpa using h
  have N : ∀ {n : Int}, (d == n) = false → ¬ d = n := fun h => by simpa using h
  refine f0 (br_of (fun e0 => ?_) fun e0 => br_of (fun e1 => ?_) fun e1 => br_of (fun e2 => ?_) fun e2 => br_of (fun e3 => ?_) fun e3 => br_of (fun e4 => ?_) fun e4 => br_of (fun e5 => ?_) fun e5 => ?_)
  · have ea : actC S c (d, x, ad, di) = (((peekC c x).1, (peekC c x).2, 0), getC S c x) := if_pos (P e0)
    rw [ea]
    refine f1 (call_of (rget_ok x R3.rep) ?_)
    rintro v h4 ⟨rfl, ac⟩
    exact ⟨((peekC c x).1, (peekC c x).2), rfl, two (K := fun v h' => v = toldV ((peekC c x).1, (peekC c x).2, 0) ∧ RActed k t h p S (getC S c x) h') _ _ ac fun h5 a5 => ⟨rfl, a5⟩⟩
  · have ea : actC S c (d, x, ad, di) = ((0, (putC S c x ad di).1, 0), (putC S c x ad di).2) := by unfold actC; rw [if_neg (N e0), if_pos (P e1)]
    rw [ea]
    refine f1 (f2 (f3 (call_of (rput_ok x ad di R3.rep) ?_)))
    rintro v h4 ⟨rfl, ac⟩
    exact ⟨_, rfl, flag (K := fun v h' => v = toldV (0, (putC S c x ad di).1, 0) ∧ RActed k t h p S ((putC S c x ad di).2) h') _ ac fun h5 a5 => ⟨rfl, a5⟩⟩
  · have ea : actC S c (d, x, ad, di) = ((0, (moveC c x ad).1, 0), (moveC c x ad).2) := by unfold actC; rw [if_neg (N e0), if_neg (N e1), if_pos (P e2)]
    rw [ea]
    refine f1 (f2 (call_of (rmove_ok x ad R3.rep) ?_))
    rintro v h4 ⟨rfl, ac⟩
    exact ⟨_, rfl, flag (K := fun v h' => v = toldV (0, (moveC c x ad).1, 0) ∧ RActed k t h p S ((moveC c x ad).2) h') _ ac fun h5 a5 => ⟨rfl, a5⟩⟩
  · have ea : actC S c (d, x, ad, di) = ((0, (dropC c x).1, 0), (dropC c x).2) := by unfold actC; rw [if_neg (N e0), if_neg (N e1), if_neg (N e2), if_pos (P e3)]
    rw [ea]
    refine f1 (call_of (rdrop_ok x R3.rep) ?_)
    rintro v h4 ⟨rfl, ac⟩
    exact ⟨_, rfl, flag (K := fun v h' => v = toldV (0, (dropC c x).1, 0) ∧ RActed k t h p S ((dropC c x).2) h') _ ac fun h5 a5 => ⟨rfl, a5⟩⟩
  · have ea : actC S c (d, x, ad, di) = (((0 : Int), false, (((dirtyC c x).length : Nat) : Int)), cleanC c x) := by unfold actC; rw [if_neg (N e0), if_neg (N e1), if_neg (N e2), if_neg (N e3), if_pos (P e4)]
    rw [ea]
    refine f1 (call_of (rclean_ok x R3.rep) ?_)
    rintro v h4 ⟨rfl, ac⟩
    refine ⟨_, rfl, ?_⟩
    obtain ⟨t4, R4, b24, b34, T4⟩ := act ac
    rw [add_mk]
    refine st_blk b34 (by simp) fun h5 b5 o5 => ?_
    exact rtold_end (F := fun v h' => v = toldV (0, false, ((dirtyC c x).length : Nat)) ∧ RActed k t h p S (cleanC c x) h') (z := (0, false, ((dirtyC c x).length : Nat))) (R4.loc o5.upd (by omega) (T4 _ (by omega) (by omega))) b5 (b24.only o5 ne) (by omega) (T4 _ (by omega) (by omega)) fun h6 a6 => ⟨rfl, a6⟩
  · obtain rfl : d = 5 := P e5
    refine call_of (rvic_ok R3.rep) ?_
    rintro v h4 ⟨rfl, n4⟩
    refine ⟨((((((vicC c).map Prod.fst).getD 0 : Nat) : Int), ((vicC c).map fun z => z.2.1).getD (0 : Int), ((vicC c).map fun z => z.2.2).getD false), (vicC c).isSome), rfl, ?_⟩
    rw [zR]
    refine new_of fun h5 b5 n5 s5 => stL_blk b5 (by simp) fun h6 b6 o6 => ?_
    have n6 : New h3 h6 := o6.upd.new (n4.trans n5) n4.size
    cases hv : vicC c with
    | none =>
      rw [act5n hv]
      refine br_f rfl ?_
      exact rtold_end (F := fun v h' => v = toldV (0, false, 0) ∧ RActed k t h p S (c) h') (z := (0, false, 0)) (R3.new n6) (b3.new n6) (b2.new n6) (by omega) (T (by omega)) fun h7 a7 => ⟨rfl, a7⟩
    | some e =>
      rw [act5s hv]
      rw [hv] at b6
      refine br_t rfl (ld_of (c := .int .i64) (e.1 : Int) (by rw [add_mk, cellH_blk b6]; rfl) (call_of (rdrop_ok (e.1 : Int) (R3.rep.new n6)) ?_))
      rintro v h7 ⟨rfl, ac⟩
      exact ⟨_, rfl, flag (K := fun v h' => v = toldV (0, (dropC c e.1).1, 0) ∧ RActed k t h p S ((dropC c e.1).2) h') _ (RActed.trans (Fr.new0 n6) ac) fun h8 a8 => ⟨rfl, a8⟩⟩
  · have ea : actC S c (d, x, ad, di) = (((peekC c x).1, (peekC c x).2, 0), c) := by unfold actC; rw [if_neg (N e0), if_neg (N e1), if_neg (N e2), if_neg (N e3), if_neg (N e4), if_neg (N e5)]
    rw [ea]
    refine f1 (call_of (rpeekN x R3.rep) ?_)
    rintro v h4 ⟨rfl, n4⟩
    exact ⟨((peekC c x).1, (peekC c x).2), rfl, two (K := fun v h' => v = toldV ((peekC c x).1, (peekC c x).2, 0) ∧ RActed k t h p S (c) h') _ _ (R3.new n4 |> fun r => ⟨_, r.rep, Fr.new0 n4⟩) fun h5 a5 => ⟨rfl, a5⟩⟩
end

/- THE LAW. -/
theorem ndec {α : Type} [DecidableEq α] (x : α) : (!decide (x = x)) = false := by simp
theorem all_le {S : Nat} {c : Cm} (i : Inv S c) : (allC c).length ≤ 64 := by rw [all_len, blocks_len i]; have := i.len; have := i.le; omega
theorem dirty_le {S : Nat} {c : Cm} (i : Inv S c) (t : Int) : (dirtyC c t).length ≤ 64 := Nat.le_trans (List.length_filter_le _ _) (all_le i)
theorem told_eq (x y : Told) : ∀ w, (Op.equal 38 (.agg #[.int .u32 x.1, .bool x.2.1, .int .i64 x.2.2]) (.agg #[.int .u32 y.1, .bool y.2.1, .int .i64 y.2.2])).run Tryz.prog w = .ok (decide (x = y)) w := by
  intro w
  obtain ⟨a, b, c⟩ := x
  obtain ⟨a', b', c'⟩ := y
  have hS : Tryz.prog.underlying 38 = some (.struct (Tryz.prog.fieldsOf 38)) := by kernel_rfl
  have hp : Tryz.prog.stoodInHeld 38 = false := by kernel_rfl
  have u3 := Tryz.underlying3
  have a3 := Tryz.isAgg3
  have z3 := Tryz.sizeOf3
  have u4 := Tryz.underlying34
  have a4 := Tryz.isAgg34
  have z4 := Tryz.sizeOf34
  have u5 := Tryz.underlying4
  have a5 := Tryz.isAgg4
  have z5 := Tryz.sizeOf4
  show ((Op.equalIn (9999 + 1) 38 _ _).run _ _) = _
  rw [run_equalIn_agg w 9999 38 _ _ hS hp]
  simp only [Program.fieldsOf, Tryz.underlying38]
  go_simp
  by_cases h1 : a = a' <;> by_cases h2 : b = b' <;> by_cases h3 : c = c' <;> simp [h1, h2, h3]
/-- How both stand since h0. -/
structure St (h0 : Heap) (p q S : Nat) (c : Cm) (t : Tags) (h : Heap) : Prop where
  pr : CRep 1 t h p S c
  rf : RRep 2 t h q S c
  nw : New h0 h
  tg : ∀ b, b < h0.size → t b = (0, 0)
section
variable {h0 h h' : Heap} {p q S : Nat} {c : Cm} {t : Tags}
theorem St.new (s : St h0 p q S c t h) (n : New h h') : St h0 p q S c t h' := ⟨s.pr.new n, s.rf.new n, s.nw.trans n, s.tg⟩
theorem St.lay0 (s : St h0 p q S c t h) (n : New h h') : St h0 p q S c (lay t h.size (0, 0)) h' :=
  ⟨s.pr.fr' (Q := fun _ => True) (Fr.lay n _) fun _ => trivial, s.rf.fr' (Q := fun _ => True) (Fr.lay n _) fun _ => trivial, s.nw.trans n, fun b hb => by rw [lay_lt (Nat.lt_of_lt_of_le hb s.nw.size)]; exact s.tg b hb⟩
end
set_option maxHeartbeats 2000000 in
theorem does_law (h : Heap) (v0 v1 v2 : Value) (room : Int) (l : List Az) (tb : Int) (r0 : ReadsV h (.int .i64) v0 room) (r1 : ReadsV h (.slice AS) v1 l) (r2 : ReadsV h (.int .i64) v2 tb) (hg : Laid h) :
    CallsH Tryz.prog 3 [v0, v1, v2] h fun v h' => v = .bool true ∧ New h h' := by
  obtain rfl := int_in r0
  obtain rfl := int_in r2
  obtain ⟨la, lc, rfl, ra⟩ := acts_in r1
  refine fun_ok hm' Tryz.func3 (by kernel_rfl) (F3_eq room la l.length lc tb _ h) ?_
  unfold F3
  rw [zE, zR]
  refine call_of (awake_ok h) ?_
  rintro v h1 ⟨rfl, n1⟩
  refine ⟨true, rfl, br_f rfl (br_of (fun _ => ⟨rfl, n1⟩) fun h200 => ?_)⟩
  have h200 : ¬ (l.length : Int) > 200 := of_decide_eq_false h200
  by_cases hr : 1 ≤ room ∧ room ≤ 64
  rotate_left
  · refine call_of (new_no room h1 (by omega)) ?_
    rintro v h' ⟨rfl, hh⟩; subst h'
    refine ⟨(none, .iface 30 (.int .i64 1)), rfl, call_of (rnew_ok room 2 (by decide) (fun _ => (0, 0)) h1) ?_⟩
    rintro v h' (⟨_, rfl, hh⟩ | ⟨S, q, t', hS, hS1, hS2, _⟩)
    rotate_left
    · omega
    subst h'
    refine ⟨(none, (1 : Int)), rfl, cut_q (ts := []) (fun _ h' => New h h') ?_ ?_⟩
    rotate_left
    · intro K hK
      refine call_of (code_err 1 h1 (hg.new n1)) ?_
      rintro v h2 ⟨rfl, n2⟩
      exact ⟨(1 : Int), rfl, br_f rfl (br_f rfl (hK () _ (n1.trans n2)))⟩
    rintro _ h2 n2 _
    exact br_t rfl ⟨rfl, n2⟩
  obtain ⟨S, rfl⟩ := Int.eq_ofNat_of_zero_le (show 0 ≤ room by omega)
  refine call_of (new_ok S 1 (fun _ => (0, 0)) h1 (by decide) (by omega) (by omega)) ?_
  rintro v h2 ⟨p, t2, rfl, hp, a2, f2⟩
  refine ⟨(some ⟨p, 0, none⟩, .nilIface), rfl, call_of (rnew_ok S 2 (by decide) t2 h2) ?_⟩
  rintro v h3 (⟨hx, _⟩ | ⟨S', q, t3, hS', _, _, rfl, hq, a3, f3⟩)
  · omega
  obtain rfl : S' = S := by omega
  have n12 : New h1 h2 := ⟨f2.size, fun b hb => f2.same b hb trivial⟩
  have n23 : New h2 h3 := ⟨f3.size, fun b hb => f3.same b hb trivial⟩
  have S3 : St h1 p q S' bare t3 h3 := ⟨a2.fr' (Q := fun _ => True) f3 fun _ => trivial, a3, n12.trans n23, fun b hb => by rw [f3.tags b (Nat.lt_of_lt_of_le hb n12.size), f2.tags b hb]⟩
  refine ⟨(some ⟨q, 0, none⟩, (0 : Int)), rfl, cut_q (ts := []) (fun _ h' => St h1 p q S' bare t3 h') ?_ ?_⟩
  rotate_left
  · intro K hK
    refine call_of (code_err 0 h3 ((hg.new n1).new S3.nw)) ?_
    rintro v h4 ⟨rfl, n4⟩
    exact ⟨(0 : Int), rfl, br_f rfl (br_f rfl (hK () _ (S3.new n4)))⟩
  rintro _ h4 S4 _
  clear S3 a2 a3 f2 f3 n12 n23
  refine br_f rfl ?_
  refine ⟨fun (s : Int) h' => ∃ (i : Nat) (c : Cm) (t' : Tags), s = i ∧ i ≤ l.length ∧ St h1 p q S' c t' h', fun (s : Int) _ => ((l.length : Int) - s).toNat, ⟨0, bare, t3, rfl, Nat.zero_le _, S4⟩, ?_⟩
  clear S4
  rintro s j h5 ⟨i, c, t5, rfl, hi, S5⟩
  refine br_of (fun hlt => ?_) (fun _ => ⟨rfl, n1.trans S5.nw⟩)
  have hlt : (i : Int) < (l.length : Int) := of_decide_eq_true hlt
  have hiL : i < l.length := by omega
  have ez : IntKind.wrap .i64 ((i : Int) + 1) = ((i + 1 : Nat) : Int) := (by first | (rw [wr64 (by omega) (by omega)]; omega) | (simp only [IntKind.wrap_i64]; omega))
  refine act_ld ra (n1.trans S5.nw) hiL hiL fun h6 b6 n6 s6 => ?_
  have S6 := S5.lay0 n6
  have T6 : lay t5 h5.size (0, 0) h5.size = (0, 0) := lay_ge (Nat.le_refl _)
  generalize lay t5 h5.size (0, 0) = t6 at *
  obtain ⟨z, hz⟩ : ∃ z : Az, z = l[i] := ⟨_, rfl⟩
  rw [← hz] at b6
  refine cut_q (ts := []) (fun _ h' => ∃ c t', St h1 p q S' c t' h') ?_ ?_
  rotate_left
  · intro K hK
    have f0 : ∀ {F : Int × Int × Int × Bool → Prop}, F (z.1, z.2.1, z.2.2.1, z.2.2.2) → ldAggW [.int .i64, .int .i64, .int .u32, .bool] ⟨h5.size, 0, none⟩ F h6 := fun hF => ldAgg_blk (cs := [.int .i64, .int .i64, .int .u32, .bool]) ((z.1, z.2.1, z.2.2.1, z.2.2.2) : Int × Int × Int × Bool) b6 ⟨rfl, rfl, rfl, rfl, trivial⟩ hF
    refine f0 (f0 (call_of (do_ok z S6.pr) ?_))
    rintro v h7 ⟨rfl, t7, p7, g7⟩
    have b7 : Blk h7 h5.size _ 36 := (g7.same h5.size b6.lt (by rw [T6]; decide)).trans b6
    have R7 : RRep 2 t7 h7 q S' c := S6.rf.fr' g7 (fun _ => (by decide : (2 : Nat) ≠ 1))
    refine ⟨(((actC S' c z).1.1, (actC S' c z).1.2.1, (actC S' c z).1.2.2) : Int × Bool × Int), rfl, by rw [add_mk, cellH_blk b7]; rfl, by rw [add_mk, cellH_blk b7]; rfl, by rw [add_mk, cellH_blk b7]; rfl, by rw [add_mk, cellH_blk b7]; rfl, call_of (own_ok z R7) ?_⟩
    rintro v h8 ⟨rfl, t8, r8, g8⟩
    have n68 : New h1 h8 := by
      refine ⟨Nat.le_trans S6.nw.size (Nat.le_trans g7.size g8.size), fun b hb => ?_⟩
      have hb6 := Nat.lt_of_lt_of_le hb S6.nw.size
      have ht := S6.tg b hb
      rw [g8.same b (Nat.lt_of_lt_of_le hb6 g7.size) (by rw [g7.tags b hb6, ht]; decide), g7.same b hb6 (by rw [ht]; decide), S6.nw.same b hb]
    have S8 : St h1 p q S' (actC S' c z).2 t8 h8 := ⟨p7.fr' g8 (fun _ => (by decide : (1 : Nat) ≠ 2)), r8, n68, fun b hb => by
      have hb6 := Nat.lt_of_lt_of_le hb S6.nw.size
      rw [g8.tags b (Nat.lt_of_lt_of_le hb6 g7.size), g7.tags b hb6, S6.tg b hb]⟩
    refine ⟨(((actC S' c z).1.1, (actC S' c z).1.2.1, (actC S' c z).1.2.2) : Int × Bool × Int), rfl, _, told_eq _ _, br_f (by simp) (ptr_of ?_)⟩
    generalize (actC S' c z).2 = d at *
    have hinv := S8.rf.inv
    obtain ⟨rb, ib, eb, fa, fc, r, M, fr, es, T, TE, ph, pd⟩ := id S8.pr
    obtain ⟨kq, a0, c0, a1, c1, ρ, T', rh⟩ := id S8.rf
    have hbl := blocks_len hinv
    have hal := all_len d
    have hle := all_le hinv
    have cK : ∀ {h'}, New h8 h' → cellH h' (Addr.add ⟨q, 0, none⟩ 0) = some (.slice a0 (blocks d).length c0) := fun n' => (rh.new n').k0
    refine ld_of (c := .ptr) (some ⟨ib, 0, none⟩) ph.c1 (ptr_of (ld_of (c := .slice) (a0, (blocks d).length, c0) rh.k0 (call_of (Ix.len_ok ib h8 M _ _ ph.ix) ?_)))
    rintro v h' ⟨rfl, hh⟩; subst h'
    refine ⟨((que d.B).length : Int), rfl, rh.k0, br_f (by show ((((que d.B).length : Nat) : Int) != (((blocks d).length : Nat) : Int)) = false; rw [hbl]; simp) (ptr_of (ld_of (c := .slice) (a0, (blocks d).length, c0) rh.k0 (call_of (all_ok S8.pr) ?_)))⟩
    rintro v h9 ⟨⟨xa, xc, rfl, ox⟩, n9⟩
    refine ⟨(xa, (allC d).length, xc), rfl, cK n9, cK n9, call_of (entries_ok h9 xa xc (allC d) hle (ER.own ox)) ?_⟩
    rintro v h10 ⟨ya, yc, rfl, oy, n10⟩
    have m10 := n9.trans n10
    refine ⟨(ya, (allC d).length, yc), rfl, cK m10, cK m10, call_of (rsame_ok h10 ya a0 yc c0 _ _ (allC d) (allC d) rfl hal.symm (by omega) (ER.row oy) (rh.new m10).er) ?_⟩
    rintro v h' ⟨rfl, hh⟩; subst h'
    refine ⟨_, rfl, cK m10, br_f (by simp) (call_of (dirty_ok tb (S8.new m10).pr) ?_)⟩
    rintro v h11 ⟨⟨da, dc, rfl, od⟩, n11⟩
    have m11 := m10.trans n11
    have hdl := dirty_le hinv tb
    refine ⟨(da, (dirtyC d tb).length, dc), rfl, cK m11, call_of (entries_ok h11 da dc (dirtyC d tb) hdl (ER.own od)) ?_⟩
    rintro v h12 ⟨ea, ec, rfl, oe, n12⟩
    have m12 := m11.trans n12
    refine ⟨(ea, (dirtyC d tb).length, ec), rfl, cK m12, call_of (rdirty_ok tb (S8.new m12).rf) ?_⟩
    rintro v h13 ⟨fa', fc', rfl, of', n13⟩
    have m13 := m12.trans n13
    refine ⟨(fa', (dirtyC d tb).length, fc'), rfl, cK m13, call_of (rsame_ok h13 ea fa' ec fc' _ _ (dirtyC d tb) (dirtyC d tb) rfl rfl (by omega) (ER.row (oe.new n13)) (ER.row of')) ?_⟩
    rintro v h' ⟨rfl, hh⟩; subst h'
    refine ⟨_, rfl, cK m13, br_f (by simp) (call_of (tables_ok (S8.new m13).pr) ?_)⟩
    rintro v h14 ⟨⟨ta, tc, rfl, ot⟩, n14⟩
    have m14 := m13.trans n14
    have ht16 := dirty_len16 d
    have hnl : (nI (tablesC d)).length = (tablesC d).length := List.length_map ..
    refine ⟨(ta, (tablesC d).length, tc), rfl, cK m14, call_of (rtables_ok (S8.new m14).rf) ?_⟩
    rintro v h15 ⟨ga, gc, rfl, og, n15⟩
    have m15 := m14.trans n15
    have art : Ar .i64 h14 ta (nI (tablesC d)) := Ar.own (n := (tablesC d).length) (by have := ot; rw [nV_eq] at this; exact this)
    refine ⟨(ga, (tablesC d).length, gc), rfl, cK m15, call_of (num_same ta ga (tablesC d).length (tablesC d).length tc gc h15 (nI (tablesC d)) (nI (tablesC d)) hnl.symm hnl.symm (by omega) (art.new n15) og) ?_⟩
    rintro v h' ⟨rfl, hh⟩; subst h'
    exact ⟨_, rfl, cK m15, br_f (by simp) (hK () _ ⟨d, t8, S8.new m15⟩)⟩
  rintro _ h7 ⟨d, t7, S7⟩ _
  refine call_of (victim_ok S7.pr) ?_
  rintro v h8 ⟨rfl, n8⟩
  refine ⟨((((((vicC d).map Prod.fst).getD 0 : Nat) : Int), ((vicC d).map fun z => z.2.1).getD (0 : Int), ((vicC d).map fun z => z.2.2).getD false), (vicC d).isSome), rfl, new_stL rfl fun h9 b9 n9 s9 => call_of (rvic_ok (S7.new (n8.trans n9)).rf) ?_⟩
  rintro v h10 ⟨rfl, n10⟩
  refine ⟨((((((vicC d).map Prod.fst).getD 0 : Nat) : Int), ((vicC d).map fun z => z.2.1).getD (0 : Int), ((vicC d).map fun z => z.2.2).getD false), (vicC d).isSome), rfl, new_stL rfl fun h11 b11 n11 s11 => ?_⟩
  have S11 := S7.new (((n8.trans n9).trans n10).trans n11)
  refine ldAgg_blk (cs := [.int .i64, .int .u32, .bool]) (((((vicC d).map Prod.fst).getD 0 : Nat) : Int), ((vicC d).map fun z => z.2.1).getD (0 : Int), ((vicC d).map fun z => z.2.2).getD false) ((b9.new n10).new n11) ⟨rfl, rfl, rfl, trivial⟩ ?_
  refine ldAgg_blk (cs := [.int .i64, .int .u32, .bool]) (((((vicC d).map Prod.fst).getD 0 : Nat) : Int), ((vicC d).map fun z => z.2.1).getD (0 : Int), ((vicC d).map fun z => z.2.2).getD false) b11 ⟨rfl, rfl, rfl, trivial⟩ ?_
  refine ⟨_, ent_eqR _ _, br_f (ndec (α := Int × Int × Bool) _) (br_f (by simp) ?_)⟩
  rw [ez]
  exact ⟨⟨i + 1, d, t7, rfl, hiL, S11⟩, (by first | omega | (dsimp only; omega) | (simp only []; omega))⟩
end Go.Proofs.YtfanjfbenhocnaaGreatDoor.Ca
