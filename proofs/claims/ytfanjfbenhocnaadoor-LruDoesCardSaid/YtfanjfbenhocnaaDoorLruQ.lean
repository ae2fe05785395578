/-
  The law's acts on a ranking, and awake.
-/
import Derived.Test.YtfanjfbenhocnaaDoorR8L
import Derived.Test.YtfanjfbenhocnaaDoorWL8
namespace Go.Proofs.YtfanjfbenhocnaaDoor.Lru
open Go.Pl Go.Pl.Lru Go.Proofs.YtfanjfbenhocnaaDoor.W Go.Proofs.YtfanjfbenhocnaaDoor.R8 Go.Proofs.YtfanjfbenhocnaaDoor.R8L
theorem own_at {h : Heap} {base n c : Nat} {a : Option Addr} {xs : List Int} (o : OwnH h base 3 1 a n c (vI xs)) : ∀ i x, xs[i]? = some x → ∃ p, a = some p ∧ cellH h (p.add i) = some (.int .i64 x) := by
  intro i x hx
  have : (vI xs)[i]? = some (.int .i64 x) := by simp [vI, hx]
  obtain ⟨g, rfl, _, hc⟩ := o.cell this
  exact ⟨_, rfl, by rw [add_mk, Nat.zero_add]; exact hc⟩
theorem blk_at {h : Heap} {b : Nat} {xs : List Int} {T : TypeId} (hb : Blk h b (vI xs).toArray T) : ∀ i x, xs[i]? = some x → ∃ p, (some (⟨b, 0, none⟩ : Addr)) = some p ∧ cellH h (p.add i) = some (.int .i64 x) := by
  intro i x hx
  refine ⟨_, rfl, ?_⟩
  rw [add_mk, Nat.zero_add, cellH_blk hb]
  simp [vI, hx]
theorem own_len {h : Heap} {base n c : Nat} {a : Option Addr} {xs : List Int} (o : OwnH h base 3 1 a n c (vI xs)) : n = xs.length := by
  have := o.1; simp [vI] at this; omega
theorem OwnH.new {h h' : Heap} {base n c size : Nat} {e : TypeId} {a : Option Addr} {xs : List Value} (o : OwnH h base e size a n c xs) (hn : New h h') : OwnH h' base e size a n c xs := o.keep fun _ _ _ hg _ => hn.same _ hg.lt
/-- The state of a law: the ranking stands at b, new since h. -/
structure At (h h' : Heap) (b S : Nat) (Ls : Nat → List Nat) : Prop where
  ok : RkOk h' b S Ls
  new : New h h'
  ge : h.size ≤ b
theorem At.only {h h1 h2 : Heap} {b S : Nat} {Ls Ls' : Nat → List Nat} (a : At h h1 b S Ls) (o : Only b h1 h2) (k : RkOk h2 b S Ls') : At h h2 b S Ls' := ⟨k, o.upd.new a.new a.ge, a.ge⟩
theorem At.to {h h1 h2 : Heap} {b S : Nat} {Ls : Nat → List Nat} (a : At h h1 b S Ls) (n : New h1 h2) : At h h2 b S Ls := ⟨a.ok.new n, a.new.trans n, a.ge⟩
theorem awake_ok (h : Heap) : CallsH Tryd.prog 5 [] h fun v h' => v = .bool true ∧ New h h' := by
  refine fun_ok hm' Tryd.func5 (by kernel_rfl) (F5_eq _ h) ?_
  unfold F5
  refine call_of (new_ok 4 h (by decide) (by decide)) ?_
  rintro v h1 ⟨rfl, hx1, hn1⟩
  have a1 : At h h1 h.size 4 _ := ⟨hx1, hn1, Nat.le_refl _⟩
  generalize h.size = b at a1
  refine ⟨(some ⟨b, 0, none⟩, .nilIface), rfl, cut_of (br_f rfl ⟨.inl rfl, br_f rfl fun _ => ?_⟩)⟩
  refine cut_of (call_of (insert_ok b 0 h1 4 _ a1.ok) ?_)
  rintro v h2 ⟨rfl, x2, o2⟩
  have a2 := a1.only o2 x2
  refine ⟨true, rfl, br_t rfl (call_of (insert_ok b 1 h2 4 _ x2) ?_)⟩
  rintro v h3 ⟨rfl, x3, o3⟩
  have a3 := a2.only o3 x3
  refine ⟨true, rfl, br_t rfl (call_of (insert_ok b 2 h3 4 _ x3) ?_)⟩
  rintro v h4 ⟨rfl, x4, o4⟩
  have a4 := a3.only o4 x4
  refine ⟨true, rfl, br_t rfl (call_of (touch_ok b 0 h4 4 _ x4) ?_)⟩
  rintro v h5 ⟨rfl, x5, o5⟩
  have a5 := a4.only o5 x5
  refine ⟨true, rfl, fun _ => cut_of (call_of (insert_ok b 2 h5 4 _ x5) ?_)⟩
  rintro v h6 ⟨rfl, x6, o6⟩
  have a6 := a5.only o6 x6
  refine ⟨false, rfl, br_f rfl (call_of (touch_ok b 3 h6 4 _ x6) ?_)⟩
  rintro v h7 ⟨rfl, x7, o7⟩
  have a7 := a6.only o7 x7
  refine ⟨false, rfl, br_f rfl (call_of (remove_ok b 3 h7 4 _ x7) ?_)⟩
  rintro v h8 ⟨rfl, x8, o8⟩
  have a8 := a7.only o8 x8
  refine ⟨false, rfl, fun _ => call_of (victim_ok b h8 4 _ x8) ?_⟩
  rintro v h' ⟨rfl, hh⟩
  subst h'
  refine ⟨((1 : Int), true), rfl, br_t rfl (br_t rfl (br_t rfl (br_t rfl (call_of (trial_ok b 4 _ h8 x8) ?_))))⟩
  rintro v h9 ⟨a, c, rfl, ow, n9⟩
  have ow : OwnH h9 h8.size 3 1 a 2 c (vI [2, 1]) := ow
  refine ⟨(a, 2, c), rfl, new_of fun h10 b10 n10 _ => call_of (same8 _ _ 2 2 _ _ h10 [2, 1] [2, 1] rfl rfl (by decide) (Ar.own (OwnH.new ow n10)) (Ar.blk b10)) ?_⟩
  rintro v h' ⟨rfl, hh⟩
  subst h'
  have a10 := (a8.to n9).to n10
  refine ⟨true, rfl, br_t rfl (call_of (kept_ok b 4 _ h10 a10.ok) ?_)⟩
  rintro v h11 ⟨a', c', rfl, ow', n11⟩
  have ow' : OwnH h11 h10.size 3 1 a' 1 c' (vI [0]) := ow'
  refine ⟨(a', 1, c'), rfl, new_of fun h12 b12 n12 _ => call_of (same8 _ _ 1 1 _ _ h12 [0] [0] rfl rfl (by decide) (Ar.own (OwnH.new ow' n12)) (Ar.blk b12)) ?_⟩
  rintro v h' ⟨rfl, hh⟩
  subst h'
  exact ⟨true, rfl, rfl, ((a10.to n11).to n12).new⟩
theorem OwnH.blk {h : Heap} {base n c size : Nat} {e : TypeId} {a : Option Addr} {xs : List Value} (o : OwnH h base e size a n c xs) : ∀ g, blkOf a = some g → base ≤ g ∧ g < h.size := by
  intro g hg
  rcases o.row.2 with ⟨rfl, _⟩ | ⟨g', cur, rfl, hb, hbl, _⟩
  · cases hg
  · injection hg with hg; change g' = g at hg; subst hg; exact ⟨hb, hbl.lt⟩
theorem updO_new {row : Option Nat} {h0 h1 h2 : Heap} (u : UpdO row h1 h2) (n : New h0 h1) (hr : ∀ g, row = some g → h0.size ≤ g) : New h0 h2 :=
  ⟨Nat.le_trans n.size u.size, fun k hk => (u.same k (Nat.lt_of_lt_of_le hk n.size) (fun e => by have := hr k e.symm; omega)).trans (n.same k hk)⟩
theorem RkOk.updO {h1 h2 : Heap} {row : Option Nat} {b S : Nat} {Ls : Nat → List Nat} (hx : RkOk h1 b S Ls) (u : UpdO row h1 h2) (hr : ∀ g, row = some g → b ≠ g) : RkOk h2 b S Ls := by
  cases row with
  | none => exact hx.new ⟨u.size, fun k hk => u.same k hk (by simp)⟩
  | some g => exact hx.upd (c := g) ⟨u.size, fun k hk hne => u.same k hk (by simpa using hne)⟩ (hr g rfl)
theorem At.updO {h h1 h2 : Heap} {row : Option Nat} {b S : Nat} {Ls : Nat → List Nat} (a : At h h1 b S Ls) (u : UpdO row h1 h2) (hr : ∀ g, row = some g → b < g) : At h h2 b S Ls :=
  ⟨a.ok.updO u fun g hg => Nat.ne_of_lt (hr g hg), updO_new u a.new fun g hg => Nat.le_of_lt (Nat.lt_of_le_of_lt a.ge (hr g hg)), a.ge⟩
theorem OwnH.only {h h' : Heap} {base n c size b : Nat} {e : TypeId} {a : Option Addr} {xs : List Value} (o : OwnH h base e size a n c xs) (k : Only b h h') (hb : b < base) : OwnH h' base e size a n c xs :=
  o.keep fun _ _ hg _ _ => k.same _ (by omega)
/-- What an act does. -/
def actL (S : Nat) (Ls : Nat → List Nat) (d s : Int) : Bool × (Nat → List Nat) :=
  if d = 0 then insL S Ls s
  else if d = 1 then (inI Ls s, if inI Ls s = true then touL S Ls s.toNat else Ls)
  else if d = 2 then (inI Ls s, if inI Ls s = true then del Ls s.toNat else Ls)
  else if d = 3 then (match vicL Ls with | some v => (true, del Ls v) | none => (false, Ls))
  else (false, Ls)
theorem do_ok (b : Nat) (d s : Int) (h : Heap) (S : Nat) (Ls : Nat → List Nat) (hx : RkOk h b S Ls) :
    CallsH Tryd.prog 9 [.pointer (some ⟨b, 0, none⟩), .agg #[.int .i64 d, .int .i64 s]] h fun v h' => v = .bool (actL S Ls d s).1 ∧ RkOk h' b S (actL S Ls d s).2 ∧ Upd b h h' := by
  refine fun_ok hm' Tryd.func9 (by kernel_rfl) (F9_eq _ _ _ _ h) ?_
  unfold F9
  refine new_of fun h1 b1 n1 s1 => ?_
  have hx1 := hx.new n1
  refine ld_of (c := .int .i64) d (by rw [add_mk, cellH_blk b1]; rfl) (br_of (fun e0 => ?_) fun e0 => br_of (fun e1 => ?_) fun e1 => br_of (fun e2 => ?_) fun e2 => br_of (fun e3 => ?_) fun e3 => ?_)
  all_goals simp only [beq_iff_eq, beq_eq_false_iff_ne, ne_eq] at *
  · subst e0
    refine ld_of (c := .int .i64) s (by rw [add_mk, cellH_blk b1]; rfl) (call_of (insert_ok b s h1 S Ls hx1) ?_)
    rintro v h2 ⟨rfl, x2, o2⟩
    exact ⟨(insL S Ls s).1, rfl, by simp [actL], by simpa [actL] using x2, n1.upd.trans o2.upd⟩
  · subst e1
    refine ld_of (c := .int .i64) s (by rw [add_mk, cellH_blk b1]; rfl) (call_of (touch_ok b s h1 S Ls hx1) ?_)
    rintro v h2 ⟨rfl, x2, o2⟩
    exact ⟨inI Ls s, rfl, by simp [actL], by simpa [actL] using x2, n1.upd.trans o2.upd⟩
  · subst e2
    refine ld_of (c := .int .i64) s (by rw [add_mk, cellH_blk b1]; rfl) (call_of (remove_ok b s h1 S Ls hx1) ?_)
    rintro v h2 ⟨rfl, x2, o2⟩
    exact ⟨inI Ls s, rfl, by simp [actL], by simpa [actL] using x2, n1.upd.trans o2.upd⟩
  · subst e3
    refine call_of (victim_ok b h1 S Ls hx1) ?_
    rintro v h' ⟨rfl, hh⟩
    subst h'
    cases hv : vicL Ls with
    | none => exact ⟨((0 : Int), false), rfl, br_f rfl ⟨by simp [actL, hv], by simpa [actL, hv] using hx1, n1.upd⟩⟩
    | some x =>
      refine ⟨((x : Int), true), rfl, br_t rfl (call_of (remove_ok b x h1 S Ls hx1) ?_)⟩
      rintro v h2 ⟨rfl, x2, o2⟩
      have hin : inI Ls (x : Int) = true := by
        have : x ∈ que Ls := by
          rw [vic_head] at hv
          cases hq : que Ls with
          | nil => rw [hq] at hv; cases hv
          | cons y r => rw [hq] at hv; injection hv with hv; simp [hv]
        have := mem_que.1 this
        simp [inI, this]
      rw [if_pos hin] at x2
      exact ⟨inI Ls x, rfl, by simp [actL, hv, hin], by simpa [actL, hv] using x2, n1.upd.trans o2.upd⟩
  · exact ⟨by simp [actL, e0, e1, e2, e3], by simpa [actL, e0, e1, e2, e3] using hx1, n1.upd⟩
end Go.Proofs.YtfanjfbenhocnaaDoor.Lru
