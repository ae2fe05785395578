/-
  What awake and LruFirst come to.
-/
import Derived.Test.YtfanjfbenhocnaaLruL
namespace Go.Proofs.Ytfanjfbenhocnaa.Lru
open Go.Pl Go.Pl.Lru Go.Proofs.Ytfanjfbenhocnaa.W
def vI (xs : List Int) : List Value := xs.map fun x => Value.int .i64 x
def nI (l : List Nat) : List Int := l.map fun (x : Nat) => (x : Int)
theorem ints_eq (l : List Nat) : ints l = vI (nI l) := by simp [ints, vI, nI]
theorem own_at {h : Heap} {base n c : Nat} {a : Option Addr} {xs : List Int} (o : OwnH h base 3 1 a n c (vI xs)) : ∀ i x, xs[i]? = some x → ∃ p, a = some p ∧ cellH h (p.add i) = some (.int .i64 x) := by
  intro i x hx
  have : (vI xs)[i]? = some (.int .i64 x) := by simp [vI, hx]
  obtain ⟨g, rfl, _, hc⟩ := o.cell this
  exact ⟨_, rfl, by rw [add_mk, Nat.zero_add]; exact hc⟩
theorem blk_at {h : Heap} {b : Nat} {xs : List Int} {T : TypeId} (hb : Blk h b (vI xs).toArray T) : ∀ i x, xs[i]? = some x → ∃ p, (some (⟨b, 0, none⟩ : Addr)) = some p ∧ cellH h (p.add i) = some (.int .i64 x) := by
  intro i x hx
  refine ⟨_, rfl, ?_⟩
  rw [add_mk, Nat.zero_add, cellH_blk hb]
  simp [vI, hx]
theorem own_len {h : Heap} {base n c : Nat} {a : Option Addr} {xs : List Int} (o : OwnH h base 3 1 a n c (vI xs)) : n = xs.length := by
  have := o.1; simp [vI] at this; omega
theorem OwnH.new {h h' : Heap} {base n c size : Nat} {e : TypeId} {a : Option Addr} {xs : List Value} (o : OwnH h base e size a n c xs) (hn : New h h') : OwnH h' base e size a n c xs := o.keep fun _ _ _ hg _ => hn.same _ hg.lt
/-- The state of a law: the ranking stands at b, new since h. -/
structure At (h h' : Heap) (b S : Nat) (Ls : Nat → List Nat) : Prop where
  ok : RkOk h' b S Ls
  new : New h h'
  ge : h.size ≤ b
theorem At.only {h h1 h2 : Heap} {b S : Nat} {Ls Ls' : Nat → List Nat} (a : At h h1 b S Ls) (o : Only b h1 h2) (k : RkOk h2 b S Ls') : At h h2 b S Ls' := ⟨k, o.upd.new a.new a.ge, a.ge⟩
theorem At.to {h h1 h2 : Heap} {b S : Nat} {Ls : Nat → List Nat} (a : At h h1 b S Ls) (n : New h1 h2) : At h h2 b S Ls := ⟨a.ok.new n, a.new.trans n, a.ge⟩
theorem awake_ok (h : Heap) : CallsH Try.prog 16 [] h fun v h' => v = .bool true ∧ New h h' := by
  refine fun_ok hm' Try.func16 (by kernel_rfl) (F16_eq _ h) ?_
  unfold F16
  refine call_of (new_ok 4 h (by decide) (by decide)) ?_
  rintro v h1 ⟨rfl, hx1, hn1⟩
  have a1 : At h h1 h.size 4 _ := ⟨hx1, hn1, Nat.le_refl _⟩
  generalize h.size = b at a1
  refine ⟨(some ⟨b, 0, none⟩, .nilIface), rfl, cut_of (br_f rfl ⟨.inl rfl, br_f rfl fun _ => ?_⟩)⟩
  refine cut_of (call_of (insert_ok b 0 h1 4 _ a1.ok) ?_)
  rintro v h2 ⟨rfl, x2, o2⟩
  have a2 := a1.only o2 x2
  refine ⟨true, rfl, br_t rfl (call_of (insert_ok b 1 h2 4 _ x2) ?_)⟩
  rintro v h3 ⟨rfl, x3, o3⟩
  have a3 := a2.only o3 x3
  refine ⟨true, rfl, br_t rfl (call_of (insert_ok b 2 h3 4 _ x3) ?_)⟩
  rintro v h4 ⟨rfl, x4, o4⟩
  have a4 := a3.only o4 x4
  refine ⟨true, rfl, br_t rfl (call_of (touch_ok b 0 h4 4 _ x4) ?_)⟩
  rintro v h5 ⟨rfl, x5, o5⟩
  have a5 := a4.only o5 x5
  refine ⟨true, rfl, fun _ => cut_of (call_of (insert_ok b 2 h5 4 _ x5) ?_)⟩
  rintro v h6 ⟨rfl, x6, o6⟩
  have a6 := a5.only o6 x6
  refine ⟨false, rfl, br_f rfl (call_of (touch_ok b 3 h6 4 _ x6) ?_)⟩
  rintro v h7 ⟨rfl, x7, o7⟩
  have a7 := a6.only o7 x7
  refine ⟨false, rfl, br_f rfl (call_of (remove_ok b 3 h7 4 _ x7) ?_)⟩
  rintro v h8 ⟨rfl, x8, o8⟩
  have a8 := a7.only o8 x8
  refine ⟨false, rfl, fun _ => call_of (victim_ok b h8 4 _ x8) ?_⟩
  rintro v h' ⟨rfl, hh⟩
  subst h'
  refine ⟨((1 : Int), true), rfl, br_t rfl (br_t rfl (br_t rfl (br_t rfl (call_of (trial_ok b 4 _ h8 x8) ?_))))⟩
  rintro v h9 ⟨a, c, rfl, ow, n9⟩
  have ow : OwnH h9 h8.size 3 1 a 2 c (vI [2, 1]) := ow
  refine ⟨(a, 2, c), rfl, new_of fun h10 b10 n10 _ => call_of (same_ok _ _ 2 2 _ _ h10 [2, 1] [2, 1] rfl rfl (by decide) (own_at (OwnH.new ow n10)) (blk_at b10)) ?_⟩
  rintro v h' ⟨rfl, hh⟩
  subst h'
  have a10 := (a8.to n9).to n10
  refine ⟨true, rfl, br_t rfl (call_of (kept_ok b 4 _ h10 a10.ok) ?_)⟩
  rintro v h11 ⟨a', c', rfl, ow', n11⟩
  have ow' : OwnH h11 h10.size 3 1 a' 1 c' (vI [0]) := ow'
  refine ⟨(a', 1, c'), rfl, new_of fun h12 b12 n12 _ => call_of (same_ok _ _ 1 1 _ _ h12 [0] [0] rfl rfl (by decide) (own_at (OwnH.new ow' n12)) (blk_at b12)) ?_⟩
  rintro v h' ⟨rfl, hh⟩
  subst h'
  exact ⟨true, rfl, rfl, ((a10.to n11).to n12).new⟩
theorem vic_que {Ls : Nat → List Nat} {x : Nat} {r : List Nat} (h : que Ls = x :: r) : vicL Ls = some x := by
  unfold que at h
  unfold vicL
  by_cases h0 : Ls 0 = []
  · rw [if_neg (by simp [h0])]
    rw [h0] at h
    simp only [List.reverse_nil, List.nil_append] at h
    have e : Ls 1 = r.reverse ++ [x] := by rw [← List.reverse_reverse (Ls 1), h]; simp
    rw [if_pos (by rw [e]; simp), e]; simp
  · rw [if_pos h0]
    obtain ⟨l, y, e⟩ : ∃ l y, Ls 0 = l ++ [y] := ⟨(Ls 0).dropLast, (Ls 0).getLast h0, (List.dropLast_concat_getLast h0).symm⟩
    rw [e] at h ⊢
    simp at h
    simp [h.1]
theorem vic_nil {Ls : Nat → List Nat} (h : que Ls = []) : vicL Ls = none := by
  unfold que at h; unfold vicL
  rw [List.append_eq_nil_iff] at h
  simp at h; simp [h]
theorem del_que {Ls : Nat → List Nat} {x : Nat} {r : List Nat} (h : que Ls = x :: r) (hn : (que Ls).Nodup) : que (del Ls x) = r := by
  rw [que_del, h, List.filter_cons_of_neg (by simp)]
  rw [h] at hn
  exact List.filter_eq_self.2 fun a ha => by simp; exact fun e => (List.nodup_cons.1 hn).1 (e ▸ ha)
theorem RkOk.que {h : Heap} {b S : Nat} {Ls : Nat → List Nat} (hx : RkOk h b S Ls) : (que Ls).Nodup ∧ (que Ls).length ≤ 64 := by
  obtain ⟨_, _, _, _, _, hrk, _⟩ := hx
  have hle := hrk.le
  refine ⟨hrk.que, ?_⟩
  have := nodup_le S _ hrk.que fun x hx => hrk.in_small (mem_que.1 hx)
  omega
theorem OwnH.blk {h : Heap} {base n c size : Nat} {e : TypeId} {a : Option Addr} {xs : List Value} (o : OwnH h base e size a n c xs) : ∀ g, blkOf a = some g → base ≤ g ∧ g < h.size := by
  intro g hg
  rcases o.row.2 with ⟨rfl, _⟩ | ⟨g', cur, rfl, hb, hbl, _⟩
  · cases hg
  · injection hg with hg; change g' = g at hg; subst hg; exact ⟨hb, hbl.lt⟩
theorem updO_new {row : Option Nat} {h0 h1 h2 : Heap} (u : UpdO row h1 h2) (n : New h0 h1) (hr : ∀ g, row = some g → h0.size ≤ g) : New h0 h2 :=
  ⟨Nat.le_trans n.size u.size, fun k hk => (u.same k (Nat.lt_of_lt_of_le hk n.size) (fun e => by have := hr k e.symm; omega)).trans (n.same k hk)⟩
theorem RkOk.updO {h1 h2 : Heap} {row : Option Nat} {b S : Nat} {Ls : Nat → List Nat} (hx : RkOk h1 b S Ls) (u : UpdO row h1 h2) (hr : ∀ g, row = some g → b ≠ g) : RkOk h2 b S Ls := by
  cases row with
  | none => exact hx.new ⟨u.size, fun k hk => u.same k hk (by simp)⟩
  | some g => exact hx.upd (c := g) ⟨u.size, fun k hk hne => u.same k hk (by simpa using hne)⟩ (hr g rfl)
theorem At.updO {h h1 h2 : Heap} {row : Option Nat} {b S : Nat} {Ls : Nat → List Nat} (a : At h h1 b S Ls) (u : UpdO row h1 h2) (hr : ∀ g, row = some g → b < g) : At h h2 b S Ls :=
  ⟨a.ok.updO u fun g hg => Nat.ne_of_lt (hr g hg), updO_new u a.new fun g hg => Nat.le_of_lt (Nat.lt_of_le_of_lt a.ge (hr g hg)), a.ge⟩
theorem OwnH.only {h h' : Heap} {base n c size b : Nat} {e : TypeId} {a : Option Addr} {xs : List Value} (o : OwnH h base e size a n c xs) (k : Only b h h') (hb : b < base) : OwnH h' base e size a n c xs :=
  o.keep fun _ _ hg _ _ => k.same _ (by omega)
/-- The numbers that came in. -/
def IntsAt (h : Heap) (l : Option Addr) (n : Nat) : Prop := ∀ i, i < n → ∃ x, l = some x ∧ x.block < h.size ∧ ∃ d : Int, cellH h (x.add (i * 1)) = some (.int .i64 d)
theorem add_block (a : Addr) (n : Nat) : (a.add n).block = a.block := by unfold Addr.add; split <;> rfl
theorem cellH_new {h h' : Heap} {a : Addr} (hn : New h h') (ha : a.block < h.size) : cellH h' a = cellH h a :=
  World.cell?_of_block (w := hw h) (w' := hw h') (a := a) (hn.same a.block ha)
/-- One number more is appended. -/
theorem push_ok {h h1 : Heap} {b S : Nat} {Ls : Nat → List Nat} {base n c : Nat} {a : Option Addr} {xs : List Int} {x : Int} (hAt : At h h1 b S Ls) (hb : b < base) (hbase : base ≤ h1.size) (ow : OwnH h1 base 3 1 a n c (vI xs)) (hn : n ≤ 300)
    {F : Option Addr → Nat → Nat → Heap → Prop}
    (hF : ∀ a' c' h2, OwnH h2 base 3 1 a' (n + 1) c' (vI (xs ++ [x])) → At h h2 b S Ls → (∀ h0, New h0 h1 → h0.size ≤ base → New h0 h2) → base ≤ h2.size → F a' (n + 1) c' h2) :
    newW (.cells #[.int .i64 x] 3) (fun p h' => apW Try.prog #[45, 45] #[.slice a n c, .slice (some p) 1 1] F h') h1 := by
  refine new_of fun h2 b2 n2 s2 => ?_
  have ow2 := OwnH.new ow n2
  refine ap_own ap45 (by omega) ow2 [.int .i64 x] (by simp) ?_ (by simp [Value.oneCell']) (by simp [maxLen]; omega) (by omega) (by omega) ?_
  · intro j u hu
    have hj : j = 0 := by have := (List.getElem?_eq_some_iff.1 hu).1; simp at this; omega
    subst hj
    rw [add_mk, cellH_blk b2]; simpa using hu
  · intro a' c' h3 o3 u3
    refine hF a' c' h3 (by simpa [vI] using o3) ((hAt.to n2).updO u3 fun g hg => ?_) (fun h0 n0 hs => updO_new u3 (n0.trans n2) fun g hg => ?_) (by have := n2.size; have := u3.size; omega)
    · have := (OwnH.blk ow2 g hg).1; omega
    · have := (OwnH.blk ow2 g hg).1; omega
theorem empty_own {h1 h2 : Heap} (b2 : Blk h2 h1.size #[] 3) : OwnH h2 h1.size 3 1 (some ⟨h1.size, 0, none⟩) 0 0 (vI []) :=
  ⟨by simp [vI], .inr ⟨h1.size, 0, #[], rfl, Nat.le_refl _, b2, Nat.le_refl _, by simp [maxLen], rfl, rfl⟩⟩
set_option maxHeartbeats 1000000 in
theorem first_law (l : Option Addr) (len cap : Nat) (t : Int) (h : Heap) (hl : IntsAt h l len) :
    CallsH Try.prog 5 [.slice l len cap, .int .i64 t] h fun v h' => v = .bool true ∧ New h h' := by
  refine fun_ok hm' Try.func5 (by kernel_rfl) (F5_eq _ _ _ _ _ h) ?_
  unfold F5
  refine call_of (awake_ok h) ?_
  rintro v h1 ⟨rfl, hn1⟩
  refine ⟨true, rfl, br_f rfl (call_of (new_ok 64 h1 (by decide) (by decide)) ?_)⟩
  rintro v h2 ⟨rfl, hx2, hn2⟩
  have a2 : At h h2 h1.size 64 _ := ⟨hx2, hn1.trans hn2, hn1.size⟩
  generalize hb : h1.size = b at a2
  refine ⟨(some ⟨b, 0, none⟩, .nilIface), rfl, cut_of ⟨.inl rfl, br_f rfl (br_of (fun _ => ⟨.inl rfl, rfl, a2.new⟩) fun hlen _ => ?_)⟩⟩
  have hlen : len ≤ 64 := by simp at hlen; omega
  have hb2 := a2.ok.lt
  refine new_of fun h3 b3 n3 s3 => ?_
  have a3 := a2.to n3
  refine ⟨fun (s : (Option Addr × Nat × Nat) × Int) h' => ∃ (came : List Int) (i : Nat) (Ls : Nat → List Nat), s.2 = i ∧ i ≤ len ∧ At h h' b 64 Ls ∧ OwnH h' h2.size 3 1 s.1.1 s.1.2.1 s.1.2.2 (vI came) ∧ h2.size ≤ h'.size ∧ nI (Ls 0) = came.reverse ∧ Ls 1 = [] ∧ came.length ≤ i,
    fun (s : (Option Addr × Nat × Nat) × Int) _ => (len - s.2).toNat, ⟨[], 0, fun _ => [], rfl, by omega, a3, empty_own b3, n3.size, rfl, rfl, by simp⟩, ?_⟩
  rintro ⟨⟨a, n, c⟩, s⟩ j h4 ⟨came, i, Ls, hs, hi, a4, ow4, hsz4, hq0, hq1, hcl⟩
  simp only [] at hs ow4 ⊢
  subst hs
  refine br_of (fun hlt => ?_) (fun _ => ?_)
  · have hlt : i < len := by simp at hlt; omega
    obtain ⟨p, rfl, hpb, d, hd⟩ := hl i hlt
    have hnl := own_len ow4
    refine ⟨⟨by omega, rfl⟩, ?_⟩
    simp only [Int.toNat_natCast]
    refine ld_of (c := .int .i64) d (by rw [cellH_new a4.new (by rw [add_block]; exact hpb)]; exact hd) ?_
    refine call_of (insert_ok b d h4 64 Ls a4.ok) ?_
    rintro v h5 ⟨rfl, x5, o5⟩
    have a5 := a4.only o5 x5
    have ow5 := OwnH.only ow4 o5 hb2
    have hsz5 : h2.size ≤ h5.size := by have := o5.size; omega
    refine ⟨(insL 64 Ls d).1, rfl, ?_⟩
    have ew : IntKind.wrap .i64 ((i : Int) + (1 : Int)) = ((i + 1 : Nat) : Int) := by rw [wr64 (by omega) (by omega)]; rfl
    rw [ew]
    by_cases hc : 0 ≤ d ∧ d < ((64 : Nat) : Int) ∧ inI Ls d = false
    · have e : insL 64 Ls d = (true, upL Ls 0 (d.toNat :: Ls 0)) := if_pos hc
      rw [e] at a5 ⊢
      refine br_t rfl (push_ok a5 hb2 hsz5 ow5 (by omega) ?_)
      intro a' c' h6 o6 a6 _ hs6
      refine ⟨⟨came ++ [d], i + 1, _, rfl, by omega, a6, o6, hs6, ?_, ?_, by simp; omega⟩, by omega⟩
      · simp only [upL, if_true, nI, List.map_cons, List.reverse_append, List.reverse_cons, List.reverse_nil, List.nil_append, List.singleton_append] at hq0 ⊢
        rw [hq0, Int.toNat_of_nonneg hc.1]
      · simp [upL, hq1]
    · have e : insL 64 Ls d = (false, Ls) := if_neg hc
      rw [e] at a5 ⊢
      exact br_f rfl ⟨⟨came, i + 1, Ls, rfl, by omega, a5, ow5, hsz5, hq0, hq1, by omega⟩, by omega⟩
  · have hnl := own_len ow4
    refine call_of (touch_ok b t h4 64 Ls a4.ok) ?_
    rintro v h5 ⟨rfl, x5, o5⟩
    have a5 := a4.only o5 x5
    have ow5 := OwnH.only ow4 o5 hb2
    have hsz5 : h2.size ≤ h5.size := by have := o5.size; omega
    refine ⟨inI Ls t, rfl, ?_⟩
    -- the queue behind the touch
    have hq : nI (que (if inI Ls t = true then touL 64 Ls t.toNat else Ls)) = (came.filter fun s => !(inI Ls t) || (s != t)) ++ (if inI Ls t = true then [t] else []) := by
      have h0 : came = nI (Ls 0).reverse := by rw [nI, List.map_reverse]; rw [nI] at hq0; rw [hq0, List.reverse_reverse]
      by_cases hi : inI Ls t = true
      · rw [if_pos hi, if_pos hi, hi]
        have ht0 : 0 ≤ t := by simp [inI] at hi; exact hi.1
        obtain ⟨m, rfl⟩ := Int.eq_ofNat_of_zero_le ht0
        simp only [Int.toNat_natCast]
        have e1 : touL 64 Ls m = upL (del Ls m) 1 [m] := by
          have : del Ls m 1 = [] := by simp [del, hq1]
          simp [touL, upL, this]
        have e2 : que (upL (del Ls m) 1 [m]) = (((Ls 0).reverse).filter fun x => x != m) ++ [m] := by simp [que, upL, del, List.filter_reverse]
        rw [e1, e2, h0]
        simp only [nI, List.map_append, List.map_cons, List.map_nil, Bool.not_true, Bool.false_or, List.filter_map]
        congr 2
        apply List.filter_congr
        intro x _
        simp only [Function.comp, bne]
        exact Bool.eq_iff_iff.2 (by simp; omega)
      · rw [if_neg hi, if_neg hi]
        have hi' : inI Ls t = false := by simpa using hi
        rw [hi', h0]
        simp [que, hq1]
        exact (List.filter_eq_self.2 fun _ _ => rfl).symm
    generalize (if inI Ls t = true then touL 64 Ls t.toNat else Ls) = L5 at hq a5
    generalize inI Ls t = is at hq ⊢
    refine new_of fun h6 b6 n6 s6 => ?_
    have a6 := a5.to n6
    refine ⟨fun (s : (Option Addr × Nat × Nat) × Int) h' => ∃ (i : Nat), s.2 = i ∧ i ≤ came.length ∧ At h h' b 64 L5 ∧ New h5 h' ∧ OwnH h' h5.size 3 1 s.1.1 s.1.2.1 s.1.2.2 (vI ((came.take i).filter fun s => !is || (s != t))) ∧ h5.size ≤ h'.size,
      fun (s : (Option Addr × Nat × Nat) × Int) _ => (came.length - s.2).toNat, ⟨0, rfl, by omega, a6, n6, empty_own b6, n6.size⟩, ?_⟩
    rintro ⟨⟨a', n', c'⟩, s⟩ j h7 ⟨i', hs, hi', a7, n7, ow7, hsz7⟩
    simp only [] at hs ow7 ⊢
    subst hs
    have hnl7 := own_len ow7
    have hfl : ((came.take i').filter fun s => !is || (s != t)).length ≤ came.length := Nat.le_trans (List.length_filter_le _ _) (by rw [List.length_take]; omega)
    have hb5 : b < h5.size := by omega
    refine br_of (fun hlt => ?_) (fun hlt => ?_)
    · have hlt : i' < came.length := by simp at hlt; omega
      have hgx : came[i']? = some came[i'] := List.getElem?_eq_getElem hlt
      obtain ⟨p, rfl, hp⟩ := own_at ow5 i' _ hgx
      have hpb : p.block < h5.size := (OwnH.blk ow5 p.block rfl).2
      refine ⟨⟨by omega, rfl⟩, ?_⟩
      simp only [Int.toNat_natCast, Nat.mul_one]
      refine ld_of (c := .int .i64) (came[i'] : Int) (by rw [cellH_new n7 (by rw [add_block]; exact hpb)]; exact hp) ?_
      have ew : IntKind.wrap .i64 ((i' : Int) + (1 : Int)) = ((i' + 1 : Nat) : Int) := by rw [wr64 (by omega) (by omega)]; rfl
      have etake : came.take (i' + 1) = came.take i' ++ [came[i']] := by rw [List.take_add_one, hgx]; rfl
      rw [ew]
      have tail : ∀ q : Bool, q = (!is || (came[i'] != t)) → br q
          (newW (.cells #[.int .i64 came[i']] 3) (fun a37 h38 => apW Try.prog #[45, 45] #[.slice a' n' c', .slice (some a37) 1 1] (fun b39 n40 c41 h42 =>
            (∃ (i : Nat), ((i' + 1 : Nat) : Int) = i ∧ i ≤ came.length ∧ At h h42 b 64 L5 ∧ New h5 h42 ∧ OwnH h42 h5.size 3 1 b39 n40 c41 (vI ((came.take i).filter fun s => !is || (s != t))) ∧ h5.size ≤ h42.size) ∧ ((came.length : Int) - ((i' + 1 : Nat) : Int)).toNat < ((came.length : Int) - (i' : Int)).toNat) h38) h7)
          ((∃ (i : Nat), ((i' + 1 : Nat) : Int) = i ∧ i ≤ came.length ∧ At h h7 b 64 L5 ∧ New h5 h7 ∧ OwnH h7 h5.size 3 1 a' n' c' (vI ((came.take i).filter fun s => !is || (s != t))) ∧ h5.size ≤ h7.size) ∧ ((came.length : Int) - ((i' + 1 : Nat) : Int)).toNat < ((came.length : Int) - (i' : Int)).toNat) := by
        rintro q hq'
        refine br_of (fun hqt => ?_) (fun hqf => ?_)
        · rw [hqt] at hq'
          refine push_ok a7 hb5 hsz7 ow7 (by omega) ?_
          intro a'' c'' h8 o8 a8 nn8 hs8
          refine ⟨⟨i' + 1, rfl, by omega, a8, nn8 h5 n7 (Nat.le_refl _), ?_, hs8⟩, by omega⟩
          rw [etake, List.filter_append, List.filter_cons_of_pos (p := fun s => !is || (s != t)) hq'.symm]
          exact o8
        · rw [hqf] at hq'
          refine ⟨⟨i' + 1, rfl, by omega, a7, n7, ?_, hsz7⟩, by omega⟩
          rw [etake, List.filter_append, List.filter_cons_of_neg (p := fun s => !is || (s != t)) (by rw [← hq']; simp), List.filter_nil, List.append_nil]
          exact ow7
      refine cut_of (br_of (fun h1 j' => tail _ ?_) (fun h1 j' => tail _ ?_))
      · rw [h1]; rfl
      · rw [h1]; rfl
    · have hi'' : i' = came.length := by simp at hlt; omega
      subst hi''
      rw [List.take_length] at ow7 hfl hnl7
      -- what is wanted
      have tail : ∀ (aw : Option Addr) (nw cw : Nat) (h8 : Heap) (want : List Int), At h h8 b 64 L5 → OwnH h8 h5.size 3 1 aw nw cw (vI want) → nI (que L5) = want →
          loopT [.sc (.int .i64)] (fun (s54 : Int) _ (K53 : Int → Heap → Prop) h55 =>
            br (decide (s54 < (((nw : Nat) : Int)))) (ptrW aw (fun a56 => idxW s54 nw true (ldW (.int .i64) (Addr.add a56 (Int.toNat s54 * 1)) (fun (x57 : Int) =>
              callT Try.prog 21 [.pointer (some ⟨b, 0, none⟩)] [.sc (.int .i64), .sc .bool] (fun (r58 : Int × Bool) h59 =>
                br (r58.1 != x57) (Value.bool false = Value.bool true ∧ New h h59) (br (!r58.2) (Value.bool false = Value.bool true ∧ New h h59)
                  (callT Try.prog 24 [.pointer (some ⟨b, 0, none⟩), .int .i64 r58.1] [.sc .bool] (fun (r60 : Bool) h61 =>
                    br (!r60) (Value.bool false = Value.bool true ∧ New h h61) (K53 (IntKind.wrap .i64 (s54 + (1 : Int))) h61)) h59))) h55) h55)))
            (callT Try.prog 21 [.pointer (some ⟨b, 0, none⟩)] [.sc (.int .i64), .sc .bool] (fun (r62 : Int × Bool) h63 => Value.bool (!r62.2) = Value.bool true ∧ New h h63) h55)) (0 : Int) h8 := by
        intro aw nw cw h8 want a8 ow8 hw8
        have hnw := own_len ow8
        have hw64 : want.length ≤ 64 := by rw [← hw8]; simp [nI]; exact a8.ok.que.2
        refine ⟨fun (s : Int) h' => ∃ (i : Nat) (Lq : Nat → List Nat), s = i ∧ i ≤ want.length ∧ At h h' b 64 Lq ∧ OwnH h' h5.size 3 1 aw nw cw (vI want) ∧ nI (que Lq) = want.drop i,
          fun (s : Int) _ => (want.length - s).toNat, ⟨0, L5, rfl, by omega, a8, ow8, hw8⟩, ?_⟩
        rintro s j h9 ⟨i9, Lq, rfl, hi9, a9, ow9, hq9⟩
        refine br_of (fun hlt => ?_) (fun hlt => ?_)
        · have hlt : i9 < want.length := by simp at hlt; omega
          have hgx : want[i9]? = some want[i9] := List.getElem?_eq_getElem hlt
          obtain ⟨p, rfl, hp⟩ := own_at ow9 i9 _ hgx
          refine ⟨⟨by omega, rfl⟩, ?_⟩
          simp only [Int.toNat_natCast, Nat.mul_one]
          refine ld_of (c := .int .i64) (want[i9] : Int) hp ?_
          rw [List.drop_eq_getElem_cons hlt] at hq9
          cases hqq : que Lq with
          | nil => rw [hqq] at hq9; cases hq9
          | cons x r =>
            rw [hqq] at hq9
            simp only [nI, List.map_cons, List.cons.injEq] at hq9
            obtain ⟨hx9, hr9⟩ := hq9
            have hin : inI Lq (x : Int) = true := by
              have : inL Lq x = true := mem_que.1 (by rw [hqq]; simp)
              simp [inI, this]
            refine call_of (victim_ok b h9 64 Lq a9.ok) ?_
            rintro v h' ⟨rfl, hh⟩
            subst h'
            rw [vic_que hqq]
            refine ⟨((x : Int), true), rfl, br_f (by simp [hx9]) (br_f rfl (call_of (remove_ok b x h9 64 Lq a9.ok) ?_))⟩
            rintro v h10 ⟨rfl, x10, o10⟩
            rw [if_pos hin] at x10
            refine ⟨inI Lq x, rfl, br_f (by simp [hin]) ?_⟩
            rw [wr64 (by omega) (by omega)]
            refine ⟨⟨i9 + 1, del Lq x, rfl, by omega, a9.only o10 x10, OwnH.only ow9 o10 hb5, ?_⟩, by omega⟩
            rw [del_que hqq a9.ok.que.1]; exact hr9
        · have hi9' : i9 = want.length := by simp at hlt; omega
          subst hi9'
          rw [List.drop_length] at hq9
          have : que Lq = [] := by simpa [nI] using hq9
          refine call_of (victim_ok b h9 64 Lq a9.ok) ?_
          rintro v h' ⟨rfl, hh⟩
          subst h'
          rw [vic_nil this]
          exact ⟨((0 : Int), false), rfl, rfl, a9.new⟩
      refine cut_of (br_of (fun ht => ?_) (fun ht => ?_))
      · rw [ht] at hq ow7 hfl hnl7
        refine push_ok a7 hb5 hsz7 ow7 (by omega) ?_
        intro a'' c'' h8 o8 a8 _ _ j'
        exact tail _ _ _ h8 _ a8 o8 (by rw [hq]; rfl)
      · intro j'
        rw [ht] at hq ow7
        exact tail _ _ _ h7 _ a7 ow7 (by rw [hq]; simp)
end Go.Proofs.Ytfanjfbenhocnaa.Lru
