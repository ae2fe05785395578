/-
  The acts of the laws of layer 10; rows of entries.
-/
import Derived.Test.YtfanjfbenhocnaaGreatDoorCaC
import Derived.Test.YtfanjfbenhocnaaGreatDoorWL10
import Derived.Test.YtfanjfbenhocnaaGreatDoorTail
namespace Go.Proofs.YtfanjfbenhocnaaGreatDoor.Ca
open Go.Pl Go.Pl.Lru Go.Pl.Ix Go.Proofs.YtfanjfbenhocnaaGreatDoor.W Go.Proofs.YtfanjfbenhocnaaGreatDoor.Lru Go.Proofs.YtfanjfbenhocnaaGreatDoor.IxS
abbrev Az := Int × Int × Int × Bool
abbrev Told := Int × Bool × Int
def actC (S : Nat) (c : Cm) (z : Az) : Told × Cm :=
  if z.1 = 0 then (((peekC c z.2.1).1, (peekC c z.2.1).2, 0), getC S c z.2.1)
  else if z.1 = 1 then ((0, (putC S c z.2.1 z.2.2.1 z.2.2.2).1, 0), (putC S c z.2.1 z.2.2.1 z.2.2.2).2)
  else if z.1 = 2 then ((0, (moveC c z.2.1 z.2.2.1).1, 0), (moveC c z.2.1 z.2.2.1).2)
  else if z.1 = 3 then ((0, (dropC c z.2.1).1, 0), (dropC c z.2.1).2)
  else if z.1 = 4 then ((0, false, ((dirtyC c z.2.1).length : Nat)), cleanC c z.2.1)
  else if z.1 = 5 then (match vicC c with | some e => ((0, (dropC c e.1).1, 0), (dropC c e.1).2) | none => ((0, false, 0), c))
  else (((peekC c z.2.1).1, (peekC c z.2.1).2, 0), c)
section
variable {S : Nat} {c : Cm} {x a : Int} {di : Bool}
theorem act0 : actC S c (0, x, a, di) = (((peekC c x).1, (peekC c x).2, 0), getC S c x) := if_pos rfl
theorem act1 : actC S c (1, x, a, di) = ((0, (putC S c x a di).1, 0), (putC S c x a di).2) := by unfold actC; rw [if_neg (show ¬ (1 : Int) = 0 by decide), if_pos rfl]
theorem act2 : actC S c (2, x, a, di) = ((0, (moveC c x a).1, 0), (moveC c x a).2) := by unfold actC; rw [if_neg (show ¬ (2 : Int) = 0 by decide), if_neg (show ¬ (2 : Int) = 1 by decide), if_pos rfl]
theorem act3 : actC S c (3, x, a, di) = ((0, (dropC c x).1, 0), (dropC c x).2) := by unfold actC; rw [if_neg (show ¬ (3 : Int) = 0 by decide), if_neg (show ¬ (3 : Int) = 1 by decide), if_neg (show ¬ (3 : Int) = 2 by decide), if_pos rfl]
theorem act4 : actC S c (4, x, a, di) = (((0 : Int), false, (((dirtyC c x).length : Nat) : Int)), cleanC c x) := by unfold actC; rw [if_neg (show ¬ (4 : Int) = 0 by decide), if_neg (show ¬ (4 : Int) = 1 by decide), if_neg (show ¬ (4 : Int) = 2 by decide), if_neg (show ¬ (4 : Int) = 3 by decide), if_pos rfl]
theorem act5s {e : En} (hv : vicC c = some e) : actC S c (5, x, a, di) = ((0, (dropC c e.1).1, 0), (dropC c e.1).2) := by unfold actC; rw [if_neg (show ¬ (5 : Int) = 0 by decide), if_neg (show ¬ (5 : Int) = 1 by decide), if_neg (show ¬ (5 : Int) = 2 by decide), if_neg (show ¬ (5 : Int) = 3 by decide), if_neg (show ¬ (5 : Int) = 4 by decide), if_pos rfl, hv]
theorem act5n (hv : vicC c = none) : actC S c (5, x, a, di) = ((0, false, 0), c) := by unfold actC; rw [if_neg (show ¬ (5 : Int) = 0 by decide), if_neg (show ¬ (5 : Int) = 1 by decide), if_neg (show ¬ (5 : Int) = 2 by decide), if_neg (show ¬ (5 : Int) = 3 by decide), if_neg (show ¬ (5 : Int) = 4 by decide), if_pos rfl, hv]
theorem act6 {d : Int} (h0 : ¬ d = 0) (h1 : ¬ d = 1) (h2 : ¬ d = 2) (h3 : ¬ d = 3) (h4 : ¬ d = 4) (h5 : ¬ d = 5) : actC S c (d, x, a, di) = (((peekC c x).1, (peekC c x).2, 0), c) := by unfold actC; rw [if_neg h0, if_neg h1, if_neg h2, if_neg h3, if_neg h4, if_neg h5]
end
theorem Inv.act {S : Nat} {c : Cm} (i : Inv S c) (z : Az) : Inv S (actC S c z).2 := by
  unfold actC
  split
  · exact i.get _
  split
  · exact i.put _ _ _
  split
  · exact i.move _ _
  split
  · exact i.drop _
  split
  · exact i.clean _
  split
  · split
    · exact i.drop _
    · exact i
  · exact i
/-- How it stands since h: the cache, and who was turned. -/
structure Run (k : Nat) (t : Tags) (h : Heap) (p S : Nat) (c : Cm) (t' : Tags) (h' : Heap) : Prop where
  rep : CRep k t' h' p S c
  fr : Fr (fun q => q.1 ≠ k) t h t' h'
section
variable {k S p : Nat} {t t1 : Tags} {h h1 h2 : Heap} {c c' : Cm}
theorem Run.loc {b : Nat} (r : Run k t h p S c t1 h1) (u : Upd b h1 h2) (hb : h.size ≤ b) (ht : (t1 b).1 ≠ k) : Run k t h p S c t1 h2 := by
  have f := r.fr
  refine ⟨r.rep.fr' (Q := fun q => q.1 = k) (Fr.upd u ht) fun _ => rfl, ⟨Nat.le_trans f.size u.size, f.tags, fun x hx hk => ?_⟩⟩
  rw [u.same x (Nat.lt_of_lt_of_le hx f.size) (by omega), f.same x hx hk]
theorem Run.new (r : Run k t h p S c t1 h1) (n : New h1 h2) : Run k t h p S c t1 h2 := ⟨r.rep.new n, r.fr.trans (Fr.new0 n)⟩
/-- New blocks are nobody's. -/
theorem Run.lay0 (r : Run k t h p S c t1 h1) (n : New h1 h2) : Run k t h p S c (lay t1 h1.size (0, 0)) h2 := ⟨r.rep.fr' (Q := fun _ => True) (Fr.lay n _) fun _ => trivial, r.fr.trans (Fr.lay n _)⟩
theorem Run.act (r : Run k t h p S c t1 h1) (a : Acted k t1 h1 p S c' h2) : ∃ t2, Run k t h p S c' t2 h2 ∧ (∀ b, b < h1.size → t2 b = t1 b) ∧ ∀ b, b < h1.size → (t1 b).1 ≠ k → h2[b]? = h1[b]? := by
  obtain ⟨t2, r2, f2⟩ := a
  exact ⟨t2, ⟨r2, r.fr.trans f2⟩, f2.tags, f2.same⟩
theorem Run.acted (r : Run k t h p S c t1 h1) : Acted k t h p S c h1 := ⟨t1, r.rep, r.fr⟩
theorem lay_0 {t : Tags} {n b : Nat} (hk : k ≠ 0) (hb : n ≤ b) : (lay t n (0, 0) b).1 ≠ k := by rw [lay_ge hb]; exact fun e => hk e.symm
end
section
variable {k S p : Nat} {t : Tags} {h : Heap} {c : Cm}
theorem zT : zeroC Tryz.prog 38 = #[.int .u32 0, .bool false, .int .i64 0] := by kernel_rfl
theorem zE : zeroC Tryz.prog TEn = #[.int .i64 0, .int .u32 0, .bool false] := by kernel_rfl
theorem zA : zeroC Tryz.prog 36 = #[.int .i64 0, .int .i64 0, .int .u32 0, .bool false] := by kernel_rfl
def toldV (z : Told) : Value := .agg #[.int .u32 z.1, .bool z.2.1, .int .i64 z.2.2]
/-- The end of an act: what is told is copied out. -/
theorem told_end {t1 : Tags} {h1 : Heap} {T5 T3 : TypeId} {z : Told} {a b : Nat} (r : Run k t h p S c t1 h1) (b5 : Blk h1 b #[.int .u32 z.1, .bool z.2.1, .int .i64 z.2.2] T5) (b3 : Blk h1 a #[.int .u32 0, .bool false, .int .i64 0] T3) (ha : h.size ≤ a) (ht : (t1 a).1 ≠ k) {F : Value → Heap → Prop}
    (hF : ∀ h2, Acted k t h p S c h2 → F (toldV z) h2) :
    ldAggW [.int .u32, .bool, .int .i64] ⟨b, 0, none⟩ (fun (x : Int × Bool × Int) => stLW ⟨a, 0, none⟩ [.int .u32 x.1, .bool x.2.1, .int .i64 x.2.2] (fun h2 => ldAggW [.int .u32, .bool, .int .i64] ⟨a, 0, none⟩ (fun (y : Int × Bool × Int) => F (.agg #[.int .u32 y.1, .bool y.2.1, .int .i64 y.2.2]) h2) h2) h1) h1 := by
  refine ldAgg_blk (cs := [.int .u32, .bool, .int .i64]) (z : Int × Bool × Int) b5 ⟨rfl, rfl, rfl, trivial⟩ (stL_blk b3 (by simp) fun h2 b2 o2 => ?_)
  exact ldAgg_blk (cs := [.int .u32, .bool, .int .i64]) (z : Int × Bool × Int) b2 ⟨rfl, rfl, rfl, trivial⟩ (hF h2 (r.loc o2.upd ha ht).acted)
set_option maxHeartbeats 1000000 in
theorem do_ok (z : Az) (a : CRep k t h p S c) :
    CallsH Tryz.prog 8 [ptr p, .agg #[.int .i64 z.1, .int .i64 z.2.1, .int .u32 z.2.2.1, .bool z.2.2.2]] h fun v h' => v = toldV (actC S c z).1 ∧ Acted k t h p S (actC S c z).2 h' := by
  obtain ⟨d, x, ad, di⟩ := z
  have hk := a.own
  refine fun_ok hm' Tryz.func8 (by kernel_rfl) (F8_eq _ _ _ _ _ _ h) ?_
  unfold F8
  rw [zT]
  refine new_of fun h1 b1 n1 s1 => new_of fun h2 b2 n2 s2 => new_of fun h3 b3 n3 s3 => ?_
  have R0 : Run k t h p S c t h := ⟨a, Fr.refl _ _ _⟩
  have R3 := R0.lay0 ((n1.trans n2).trans n3)
  have b1 := (b1.new n2).new n3
  have b2 := b2.new n3
  have T : ∀ {b}, h.size ≤ b → (lay t h.size (0, 0) b).1 ≠ k := fun hb => lay_0 hk hb
  generalize lay t h.size (0, 0) = t3 at *
  have f0 : ∀ {F : Int → Prop}, F d → ldW (.int .i64) (Addr.add ⟨h.size, 0, none⟩ 0) F h3 := fun hF => ld_of (c := .int .i64) d (by rw [add_mk, cellH_blk b1]; rfl) hF
  have f1 : ∀ {F : Int → Prop}, F x → ldW (.int .i64) (Addr.add ⟨h.size, 0, none⟩ 1) F h3 := fun hF => ld_of (c := .int .i64) x (by rw [add_mk, cellH_blk b1]; rfl) hF
  have f2 : ∀ {F : Int → Prop}, F ad → ldW (.int .u32) (Addr.add ⟨h.size, 0, none⟩ 2) F h3 := fun hF => ld_of (c := .int .u32) ad (by rw [add_mk, cellH_blk b1]; rfl) hF
  have f3 : ∀ {F : Bool → Prop}, F di → ldW .bool (Addr.add ⟨h.size, 0, none⟩ 3) F h3 := fun hF => ld_of (c := .bool) di (by rw [add_mk, cellH_blk b1]; rfl) hF
  -- what stays behind an act of the cache
  have act : ∀ {c' : Cm} {h4 : Heap}, Acted k t3 h3 p S c' h4 → ∃ t4, Run k t h p S c' t4 h4 ∧ Blk h4 h1.size #[.int .u32 0, .bool false, .int .i64 0] 38 ∧ Blk h4 h2.size #[.int .u32 0, .bool false, .int .i64 0] 38 ∧ (∀ b, h.size ≤ b → b < h3.size → (t4 b).1 ≠ k) := fun {c' h4} ac => by
    obtain ⟨t4, R4, e4, k4⟩ := R3.act ac
    exact ⟨t4, R4, (k4 h1.size (by omega) (T (by omega))).trans b2, (k4 h2.size (by omega) (T (by omega))).trans b3, fun b hb hb3 => by rw [e4 b hb3]; exact T hb⟩
  have ne : h1.size ≠ h2.size := by omega
  -- one flag is stored, and told
  have flag : ∀ {c' : Cm} {h4 : Heap} {K : Value → Heap → Prop} (is : Bool), Acted k t3 h3 p S c' h4 → (∀ h5, Acted k t h p S c' h5 → K (toldV (0, is, 0)) h5) →
      stW (Addr.add ⟨h2.size, 0, none⟩ 1) (.bool is) (fun h29 => ldAggW [.int .u32, .bool, .int .i64] ⟨h2.size, 0, none⟩ (fun (x30 : Int × Bool × Int) => stLW ⟨h1.size, 0, none⟩ [.int .u32 x30.1, .bool x30.2.1, .int .i64 x30.2.2] (fun h31 => ldAggW [.int .u32, .bool, .int .i64] ⟨h1.size, 0, none⟩ (fun (x32 : Int × Bool × Int) => K (.agg #[.int .u32 x32.1, .bool x32.2.1, .int .i64 x32.2.2]) h31) h31) h29) h29) h4 := fun {c' h4 K} is ac hK => by
    obtain ⟨t4, R4, b24, b34, T4⟩ := act ac
    rw [add_mk]
    refine st_blk b34 (by simp) fun h5 b5 o5 => ?_
    exact told_end (z := (0, is, 0)) (R4.loc o5.upd (by omega) (T4 _ (by omega) (by omega))) b5 (b24.only o5 ne) (by omega) (T4 _ (by omega) (by omega)) hK
  have two : ∀ {c' : Cm} {h4 : Heap} {K : Value → Heap → Prop} (n : Int) (is : Bool), Acted k t3 h3 p S c' h4 → (∀ h5, Acted k t h p S c' h5 → K (toldV (n, is, 0)) h5) →
      stW (Addr.add ⟨h2.size, 0, none⟩ 0) (.int .u32 n) (fun h28 => stW (Addr.add ⟨h2.size, 0, none⟩ 1) (.bool is) (fun h29 => ldAggW [.int .u32, .bool, .int .i64] ⟨h2.size, 0, none⟩ (fun (x30 : Int × Bool × Int) => stLW ⟨h1.size, 0, none⟩ [.int .u32 x30.1, .bool x30.2.1, .int .i64 x30.2.2] (fun h31 => ldAggW [.int .u32, .bool, .int .i64] ⟨h1.size, 0, none⟩ (fun (x32 : Int × Bool × Int) => K (.agg #[.int .u32 x32.1, .bool x32.2.1, .int .i64 x32.2.2]) h31) h31) h29) h29) h28) h4 := fun {c' h4 K} n is ac hK => by
    obtain ⟨t4, R4, b24, b34, T4⟩ := act ac
    rw [add_mk, add_mk]
    refine st_blk b34 (by simp) fun h5 b5 o5 => st_blk b5 (by simp) fun h6 b6 o6 => ?_
    exact told_end (z := (n, is, 0)) ((R4.loc o5.upd (by omega) (T4 _ (by omega) (by omega))).loc o6.upd (by omega) (T4 _ (by omega) (by omega))) b6 ((b24.only o5 ne).only o6 ne) (by omega) (T4 _ (by omega) (by omega)) hK
  have P : ∀ {n : Int}, (d == n) = true → d = n := fun h => by simpa using h
  have N : ∀ {n : Int}, (d == n) = false → ¬ d = n := fun h => by simpa using h
  refine f0 (br_of (fun e0 => ?_) fun e0 => br_of (fun e1 => ?_) fun e1 => br_of (fun e2 => ?_) fun e2 => br_of (fun e3 => ?_) fun e3 => br_of (fun e4 => ?_) fun e4 => br_of (fun e5 => ?_) fun e5 => ?_)
  · have ea : actC S c (d, x, ad, di) = (((peekC c x).1, (peekC c x).2, 0), getC S c x) := if_pos (P e0)
    rw [ea]
    refine f1 (call_of (get_ok x R3.rep) ?_)
    rintro v h4 ⟨rfl, ac⟩
    exact ⟨((peekC c x).1, (peekC c x).2), rfl, two (K := fun v h' => v = toldV ((peekC c x).1, (peekC c x).2, 0) ∧ Acted k t h p S (getC S c x) h') _ _ ac fun h5 a5 => ⟨rfl, a5⟩⟩
  · have ea : actC S c (d, x, ad, di) = ((0, (putC S c x ad di).1, 0), (putC S c x ad di).2) := by unfold actC; rw [if_neg (N e0), if_pos (P e1)]
    rw [ea]
    refine f1 (f2 (f3 (call_of (put_ok x ad di R3.rep) ?_)))
    rintro v h4 ⟨rfl, ac⟩
    exact ⟨_, rfl, flag (K := fun v h' => v = toldV (0, (putC S c x ad di).1, 0) ∧ Acted k t h p S ((putC S c x ad di).2) h') _ ac fun h5 a5 => ⟨rfl, a5⟩⟩
  · have ea : actC S c (d, x, ad, di) = ((0, (moveC c x ad).1, 0), (moveC c x ad).2) := by unfold actC; rw [if_neg (N e0), if_neg (N e1), if_pos (P e2)]
    rw [ea]
    refine f1 (f2 (call_of (move_ok x ad R3.rep) ?_))
    rintro v h4 ⟨rfl, ac⟩
    exact ⟨_, rfl, flag (K := fun v h' => v = toldV (0, (moveC c x ad).1, 0) ∧ Acted k t h p S ((moveC c x ad).2) h') _ ac fun h5 a5 => ⟨rfl, a5⟩⟩
  · have ea : actC S c (d, x, ad, di) = ((0, (dropC c x).1, 0), (dropC c x).2) := by unfold actC; rw [if_neg (N e0), if_neg (N e1), if_neg (N e2), if_pos (P e3)]
    rw [ea]
    refine f1 (call_of (drop_ok x R3.rep) ?_)
    rintro v h4 ⟨rfl, ac⟩
    exact ⟨_, rfl, flag (K := fun v h' => v = toldV (0, (dropC c x).1, 0) ∧ Acted k t h p S ((dropC c x).2) h') _ ac fun h5 a5 => ⟨rfl, a5⟩⟩
  · have ea : actC S c (d, x, ad, di) = (((0 : Int), false, (((dirtyC c x).length : Nat) : Int)), cleanC c x) := by unfold actC; rw [if_neg (N e0), if_neg (N e1), if_neg (N e2), if_neg (N e3), if_pos (P e4)]
    rw [ea]
    refine f1 (call_of (clean_ok x R3.rep) ?_)
    rintro v h4 ⟨rfl, ac⟩
    refine ⟨_, rfl, ?_⟩
    obtain ⟨t4, R4, b24, b34, T4⟩ := act ac
    rw [add_mk]
    refine st_blk b34 (by simp) fun h5 b5 o5 => ?_
    exact told_end (F := fun v h' => v = toldV (0, false, ((dirtyC c x).length : Nat)) ∧ Acted k t h p S (cleanC c x) h') (z := (0, false, ((dirtyC c x).length : Nat))) (R4.loc o5.upd (by omega) (T4 _ (by omega) (by omega))) b5 (b24.only o5 ne) (by omega) (T4 _ (by omega) (by omega)) fun h6 a6 => ⟨rfl, a6⟩
  · have ea : actC S c (d, x, ad, di) = (match vicC c with | some e => ((0, (dropC c e.1).1, 0), (dropC c e.1).2) | none => ((0, false, 0), c)) := by unfold actC; rw [if_neg (N e0), if_neg (N e1), if_neg (N e2), if_neg (N e3), if_neg (N e4), if_pos (P e5)]
    rw [ea]
    refine call_of (victim_ok R3.rep) ?_
    rintro v h4 ⟨rfl, n4⟩
    refine ⟨((((((vicC c).map Prod.fst).getD 0 : Nat) : Int), ((vicC c).map fun z => z.2.1).getD (0 : Int), ((vicC c).map fun z => z.2.2).getD false), (vicC c).isSome), rfl, ?_⟩
    rw [zE]
    refine new_of fun h5 b5 n5 s5 => stL_blk b5 (by simp) fun h6 b6 o6 => ?_
    have n6 : New h3 h6 := o6.upd.new (n4.trans n5) n4.size
    cases hv : vicC c with
    | none =>
      refine br_f rfl ?_
      exact told_end (F := fun v h' => v = toldV (0, false, 0) ∧ Acted k t h p S (c) h') (z := (0, false, 0)) (R3.new n6) (b3.new n6) (b2.new n6) (by omega) (T (by omega)) fun h7 a7 => ⟨rfl, a7⟩
    | some e =>
      rw [hv] at b6
      refine br_t rfl (ld_of (c := .int .i64) (e.1 : Int) (by rw [add_mk, cellH_blk b6]; rfl) (call_of (drop_ok (e.1 : Int) (R3.rep.new n6)) ?_))
      rintro v h7 ⟨rfl, ac⟩
      exact ⟨_, rfl, flag (K := fun v h' => v = toldV (0, (dropC c e.1).1, 0) ∧ Acted k t h p S ((dropC c e.1).2) h') _ (Acted.trans (Fr.new0 n6) ac) fun h8 a8 => ⟨rfl, a8⟩⟩
  · have ea : actC S c (d, x, ad, di) = (((peekC c x).1, (peekC c x).2, 0), c) := by unfold actC; rw [if_neg (N e0), if_neg (N e1), if_neg (N e2), if_neg (N e3), if_neg (N e4), if_neg (N e5)]
    rw [ea]
    refine f1 (call_of (peek_ok x R3.rep) ?_)
    rintro v h4 ⟨rfl, n4⟩
    exact ⟨((peekC c x).1, (peekC c x).2), rfl, two (K := fun v h' => v = toldV ((peekC c x).1, (peekC c x).2, 0) ∧ Acted k t h p S (c) h') _ _ (R3.new n4 |> fun r => ⟨_, r.rep, Fr.new0 n4⟩) fun h5 a5 => ⟨rfl, a5⟩⟩
end
end Go.Proofs.YtfanjfbenhocnaaGreatDoor.Ca
