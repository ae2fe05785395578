/-
  The contracts of package index: New, Put, Get, Drop, Len, each function once.
-/
import Derived.Test.YtfanjfbenhocnaaGreatDoorWIx
import Derived.Test.YtfanjfbenhocnaaGreatDoorHeap
import Derived.Test.YtfanjfbenhocnaaGreatDoorIx
namespace Go.Proofs.YtfanjfbenhocnaaGreatDoor.Ix
open Go.Pl Go.Pl.Ix Go.Proofs.YtfanjfbenhocnaaGreatDoor.W
theorem hm' : Tryz.prog.follows .mixedOrders = true := by kernel_rfl
theorem home_ok (n : Int) (h : Heap) : CallsH Tryz.prog 65 [.int .u32 n] h fun v h' => v = .int .i64 (hm n) ∧ h' = h := by
  refine fun_ok hm' Tryz.func65 (by kernel_rfl) (F65_eq n _ h) ?_
  refine ⟨?_, rfl⟩
  have e : IntKind.wrap .i64 (Int.fdiv (IntKind.wrap .u32 (n * (2654435761 : Int))) 33554432) = (hm n : Int) := by
    rw [wru32, Int.fdiv_eq_ediv_of_nonneg _ (by omega), wr64 (by omega) (by omega)]
    unfold hm
    omega
  rw [← e]
def IxA (arr : Array Value) (p : Nat → C) (n room : Int) : Prop :=
  arr.size = 386 ∧ (∀ i, i < 128 → arr[3 * i]? = some (.bool (p i).t) ∧ arr[3 * i + 1]? = some (.int .u32 (p i).k) ∧ arr[3 * i + 2]? = some (.int .i64 (p i).s)) ∧
    arr[384]? = some (.int .i64 n) ∧ arr[385]? = some (.int .i64 room)
def IxAt (h : Heap) (b : Nat) (p : Nat → C) (n room : Int) : Prop := ∃ arr T, Blk h b arr T ∧ IxA arr p n room
theorem find_ok (b : Nat) (key : Int) (h : Heap) (p : Nat → C) (n room : Int) (hx : IxAt h b p n room) (he : ∃ e, e < 128 ∧ (p e).t = false) :
    CallsH Tryz.prog 63 [.pointer (some ⟨b, 0, none⟩), .int .u32 key] h fun v h' => ∃ f : Nat, v = .int .i64 f ∧ FindAt p key f ∧ h' = h := by
  refine fun_ok hm' Tryz.func63 (by kernel_rfl) (F63_eq _ _ _ h) ?_
  unfold F63
  refine call_of (home_ok key h) ?_
  rintro v h' ⟨rfl, hh⟩
  subst h'
  refine ⟨(hm key : Int), rfl, ?_⟩
  obtain ⟨arr, T, hb, hs, hp, _⟩ := hx
  obtain ⟨e, he, het⟩ := he
  have hl := hm_lt key
  refine ⟨fun (s : Int) h' => h' = h ∧ ∃ d : Nat, d ≤ dist (hm key) e ∧ s = (((hm key + d) % 128 : Nat) : Int) ∧ ∀ x, x < d → (p ((hm key + x) % 128)).t = true ∧ (p ((hm key + x) % 128)).k ≠ key,
    fun (s : Int) _ => dist (Int.toNat s) e, ⟨rfl, 0, Nat.zero_le _, by simp; omega, fun x hx => by omega⟩, ?_⟩
  rintro s j h' ⟨hh, d, hd, rfl, hpre⟩
  subst h'
  have hde := dist_lt (hm key) e
  generalize hf : (hm key + d) % 128 = f at *
  have fl : f < 128 := by omega
  obtain ⟨c1, c2, c3⟩ := hp f fl
  refine ⟨⟨by omega, rfl⟩, ld_of (c := .bool) (p f).t ?_ ?_⟩
  · simp only [add_mk, Int.toNat_natCast, Nat.zero_add, Nat.add_zero]
    rw [cellH_blk hb, Nat.mul_comm]; exact c1
  refine br_of (fun ht => ?_) (fun ht => ?_)
  · refine ⟨⟨by omega, rfl⟩, ld_of (c := .int .u32) (p f).k ?_ ?_⟩
    · simp only [add_mk, Int.toNat_natCast, Nat.zero_add, Nat.add_zero]
      rw [cellH_blk hb, Nat.mul_comm]; exact c2
    refine br_of (fun hk => ?_) (fun hk => ?_)
    · have hk' : (p f).k ≠ key := by simpa using hk
      have hfe : f ≠ e := fun e' => by subst e'; rw [ht] at het; cases het
      have hne : d ≠ dist (hm key) e := fun e' => by subst e'; exact hfe (by rw [← hf, at_dist _ _ hl he])
      have hw : Int.tmod (IntKind.wrap .i64 ((f : Int) + (1 : Int))) (128 : Int) = (((hm key + (d + 1)) % 128 : Nat) : Int) := by
        rw [wr64 (by omega) (by omega), Int.tmod_eq_emod_of_nonneg (by omega)]
        omega
      rw [hw]
      refine ⟨⟨rfl, d + 1, by omega, rfl, fun x hx => ?_⟩, ?_⟩
      · by_cases e : x = d
        · subst e; rw [hf]; exact ⟨ht, hk'⟩
        · exact hpre x (by omega)
      · simp only [Int.toNat_natCast]
        unfold dist at *; omega
    · have hk' : (p f).k = key := by simpa using hk
      exact ⟨f, rfl, ⟨d, by omega, hf.symm, hpre, fun _ => hk'⟩, rfl⟩
  · exact ⟨f, rfl, ⟨d, by omega, hf.symm, hpre, fun h => by rw [ht] at h; cases h⟩, rfl⟩
theorem IxAt.only {h h' : Heap} {b c : Nat} {p : Nat → C} {n room : Int} (hx : IxAt h b p n room) (ho : Only c h h') (hne : b ≠ c) : IxAt h' b p n room := by
  obtain ⟨arr, T, hb, ha⟩ := hx; exact ⟨arr, T, hb.only ho hne, ha⟩
theorem IxAt.new {h h' : Heap} {b : Nat} {p : Nat → C} {n room : Int} (hx : IxAt h b p n room) (ho : New h h') : IxAt h' b p n room := by
  obtain ⟨arr, T, hb, ha⟩ := hx; exact ⟨arr, T, hb.new ho, ha⟩
theorem IxAt.upd {h h' : Heap} {b c : Nat} {p : Nat → C} {n room : Int} (hx : IxAt h b p n room) (ho : Upd c h h') (hne : b ≠ c) : IxAt h' b p n room := by
  obtain ⟨arr, T, hb, ha⟩ := hx; exact ⟨arr, T, hb.upd ho hne, ha⟩
theorem IxA.many {arr : Array Value} {p : Nat → C} {n room m : Int} (h : IxA arr p n room) : IxA (arr.setIfInBounds 384 (.int .i64 m)) p m room := by
  obtain ⟨h1, h2, h3, h4⟩ := h
  refine ⟨by simp [h1], fun i hi => ?_, by simp [h1], ?_⟩
  · rw [Array.getElem?_setIfInBounds_ne (by omega), Array.getElem?_setIfInBounds_ne (by omega), Array.getElem?_setIfInBounds_ne (by omega)]; exact h2 i hi
  · rw [Array.getElem?_setIfInBounds_ne (by omega)]; exact h4
theorem IxA.place {arr : Array Value} {p : Nat → C} {n room : Int} {f : Nat} (c : C) (hf : f < 128) (h : IxA arr p n room) : IxA (setsA arr (3 * f) [.bool c.t, .int .u32 c.k, .int .i64 c.s]) (Ix.upd p f c) n room := by
  obtain ⟨h1, h2, h3, h4⟩ := h
  refine ⟨by rw [setsA_size]; exact h1, fun i hi => ?_, ?_, ?_⟩
  · simp only [setsA_get, List.length_cons, List.length_nil, h1]
    by_cases e : i = f
    · subst e
      rw [upd_same, if_pos (by omega), if_pos (by omega), if_pos (by omega)]
      simp [show 3 * i + 1 - 3 * i = 1 by omega, show 3 * i + 2 - 3 * i = 2 by omega]
    · rw [upd_ne _ _ e, if_neg (by omega), if_neg (by omega), if_neg (by omega)]; exact h2 i hi
  · simp only [setsA_get, List.length_cons, List.length_nil, h1]; rw [if_neg (by omega)]; exact h3
  · simp only [setsA_get, List.length_cons, List.length_nil, h1]; rw [if_neg (by omega)]; exact h4
/-- The index whose block is b tells M; it has n keys, and takes 'room'. -/
def IxOk (h : Heap) (b : Nat) (M : Int → Option Int) (n : Nat) (room : Int) : Prop :=
  ∃ p, IxAt h b p n room ∧ Inv p ∧ Rep p M ∧ cnt p 128 = n ∧ (n : Int) ≤ room ∧ 1 ≤ room ∧ room ≤ 64
theorem IxOk.only {h h' : Heap} {b c : Nat} {M : Int → Option Int} {n : Nat} {room : Int} (hx : IxOk h b M n room) (ho : Only c h h') (hne : b ≠ c) : IxOk h' b M n room := by
  obtain ⟨p, h1, r⟩ := hx; exact ⟨p, h1.only ho hne, r⟩
theorem IxOk.new {h h' : Heap} {b : Nat} {M : Int → Option Int} {n : Nat} {room : Int} (hx : IxOk h b M n room) (ho : New h h') : IxOk h' b M n room := by
  obtain ⟨p, h1, r⟩ := hx; exact ⟨p, h1.new ho, r⟩
theorem IxOk.upd {h h' : Heap} {b c : Nat} {M : Int → Option Int} {n : Nat} {room : Int} (hx : IxOk h b M n room) (ho : Upd c h h') (hne : b ≠ c) : IxOk h' b M n room := by
  obtain ⟨p, h1, r⟩ := hx; exact ⟨p, h1.upd ho hne, r⟩
theorem IxOk.lt {h : Heap} {b : Nat} {M : Int → Option Int} {n : Nat} {room : Int} (hx : IxOk h b M n room) : b < h.size := by
  obtain ⟨p, ⟨arr, T, hb, _⟩, _⟩ := hx; exact hb.lt
theorem IxOk.le {h : Heap} {b : Nat} {M : Int → Option Int} {n : Nat} {room : Int} (hx : IxOk h b M n room) : (n : Int) ≤ room ∧ 1 ≤ room ∧ room ≤ 64 := by
  obtain ⟨p, _, _, _, _, h1⟩ := hx; exact h1
theorem len_ok (b : Nat) (h : Heap) (M : Int → Option Int) (n : Nat) (room : Int) (hx : IxOk h b M n room) :
    CallsH Tryz.prog 10 [.pointer (some ⟨b, 0, none⟩)] h fun v h' => v = .int .i64 n ∧ h' = h := by
  refine fun_ok hm' Tryz.func10 (by kernel_rfl) (F10_eq _ _ h) ?_
  obtain ⟨p, ⟨arr, T, hb, hs, hp, hn, hr⟩, _⟩ := hx
  unfold F10
  refine ld_of (c := .int .i64) (n : Int) ?_ ⟨rfl, rfl⟩
  rw [add_mk, cellH_blk hb]; exact hn
theorem find_at (b : Nat) (key : Int) (h : Heap) (p : Nat → C) (n room : Int) (f : Nat) (hx : IxAt h b p n room) (he : ∃ e, e < 128 ∧ (p e).t = false) (hf : FindAt p key f) :
    CallsH Tryz.prog 63 [.pointer (some ⟨b, 0, none⟩), .int .u32 key] h fun v h' => v = .int .i64 f ∧ h' = h :=
  (find_ok b key h p n room hx he).mono fun _ _ ⟨_, hv, hg, hh⟩ => ⟨by rw [hv, find_one hg hf], hh⟩
theorem ext_new {h h' : Heap} (he : Ext h h') : New h h' := by
  obtain ⟨l, rfl⟩ := he
  exact ⟨by simp, fun k hk => by simp [Array.getElem?_append_left, hk]⟩
theorem zeroPl : zeroC Tryz.prog 82 = #[.bool false, .int .u32 0, .int .i64 0] := by kernel_rfl
theorem get_ok (b : Nat) (key : Int) (h : Heap) (M : Int → Option Int) (n : Nat) (room : Int) (hx : IxOk h b M n room) :
    CallsH Tryz.prog 59 [.pointer (some ⟨b, 0, none⟩), .int .u32 key] h fun v h' => v = .tuple #[.int .i64 ((M key).getD 0), .bool (M key).isSome] ∧ New h h' := by
  refine fun_ok hm' Tryz.func59 (by kernel_rfl) (F59_eq _ _ _ h) ?_
  obtain ⟨p, hat, hinv, hrep, hc, hle, hr1, hr2⟩ := hx
  have hemp := has_empty (p := p) (by omega)
  obtain ⟨f, hf⟩ := find_ex (key := key) hemp
  have hfl := hf.lt
  obtain ⟨arr, T, hb, hs, hp, hn, hr⟩ := id hat
  obtain ⟨c1, c2, c3⟩ := hp f hfl
  have hsome := find_some hinv hrep hf
  unfold F59
  refine ⟨(f : Int), fun h' he => find_at b key h' p n room f (hat.new (ext_new he)) hemp hf, ⟨by omega, rfl⟩, ?_⟩
  simp only [add_mk, Int.toNat_natCast, Nat.zero_add, Nat.add_zero, zeroPl]
  refine ldAgg_blk (T := T) (arr := arr) ((p f).t, (p f).k, (p f).s) hb ?_ ?_
  · rw [Nat.mul_comm]; exact ⟨c1, c2, c3, trivial⟩
  refine new_of fun h1 hb1 hn1 hs1 => stL_blk hb1 (by simp) fun h2 hb2 ho2 => ?_
  have hnew : New h h2 := ho2.upd.new hn1 (Nat.le_refl _)
  refine ld_of (c := .bool) (p f).t ?_ ?_
  · simp only [add_mk]; rw [cellH_blk hb2, setsA_get]; rfl
  rcases hsome with ⟨ht, hk, hM⟩ | ⟨ht, hM⟩
  · refine br_f (by simp [ht]) ?_
    refine ld_of (c := .int .i64) (p f).s ?_ ?_
    · simp only [add_mk]; rw [cellH_blk hb2, setsA_get]; rfl
    · exact ⟨by simp [hM], hnew⟩
  · exact br_t (by simp [ht]) ⟨by simp [hM], hnew⟩
theorem new_ok (room : Int) (h : Heap) (h1 : 1 ≤ room) (h2 : room ≤ 64) :
    CallsH Tryz.prog 27 [.int .i64 room] h fun v h' => v = .tuple #[.pointer (some ⟨h.size, 0, none⟩), .nilIface] ∧ IxOk h' h.size (fun _ => none) 0 room ∧ New h h' := by
  refine fun_ok hm' Tryz.func27 (by kernel_rfl) (F27_eq _ _ h) ?_
  unfold F27
  refine cut_of (br_f (by simp; omega) fun _ => br_f (by simp; omega) ?_)
  refine new_of fun h' hb hn hs => ⟨rfl, ⟨fun _ => emptyC, ⟨_, _, hb, ?_⟩, ⟨fun i j _ _ hi => (by cases hi), fun i _ hi => (by cases hi)⟩, ⟨fun _ _ i _ hi => (by cases hi), fun _ _ hk => (by cases hk)⟩, ?_, by omega, h1, h2⟩, hn⟩
  · have hsz : (repL 128 [.bool false, .int .u32 0, .int .i64 0] [.int .i64 0, .int .i64 room]).size = 386 := by kernel_rfl
    refine ⟨hsz, fun i hi => ?_, by kernel_rfl, by kernel_rfl⟩
    have key : ∀ (n i : Nat) (l r : List Value), i < n → ∀ j v, l[j]? = some v → l.length = 3 → (List.flatten (List.replicate n l) ++ r)[3 * i + j]? = some v := by
      intro n
      induction n with
      | zero => intro i l r hi; omega
      | succ n ih =>
        intro i l r hi j v hj hl
        have hjl : j < 3 := by rw [← hl]; exact (List.getElem?_eq_some_iff.1 hj).1
        rw [List.replicate_succ, List.flatten_cons, List.append_assoc]
        cases i with
        | zero => rw [List.getElem?_append_left (by omega)]; simpa using hj
        | succ i =>
          rw [List.getElem?_append_right (by omega), show 3 * (i + 1) + j - l.length = 3 * i + j by omega]
          exact ih i l r (by omega) j v hj hl
    have k0 := key 128 i [.bool false, .int .u32 0, .int .i64 0] [.int .i64 0, .int .i64 room] hi 0 _ rfl rfl
    have k1 := key 128 i [.bool false, .int .u32 0, .int .i64 0] [.int .i64 0, .int .i64 room] hi 1 _ rfl rfl
    have k2 := key 128 i [.bool false, .int .u32 0, .int .i64 0] [.int .i64 0, .int .i64 room] hi 2 _ rfl rfl
    unfold repL
    refine ⟨?_, ?_, ?_⟩ <;> rw [List.getElem?_toArray] <;> assumption
  · kernel_rfl
theorem new_no (room : Int) (h : Heap) (h1 : room < 1 ∨ 64 < room) :
    CallsH Tryz.prog 27 [.int .i64 room] h fun v h' => v = .tuple #[.pointer none, .iface 30 (.int .i64 1)] ∧ h' = h := by
  refine fun_ok hm' Tryz.func27 (by kernel_rfl) (F27_eq _ _ h) ?_
  unfold F27
  refine cut_of (br_of (fun _ _ => br_t rfl ⟨rfl, rfl⟩) fun hh _ => br_t ?_ ⟨rfl, rfl⟩)
  simp at hh ⊢; omega
theorem put_ok (b : Nat) (key s : Int) (h : Heap) (M : Int → Option Int) (n : Nat) (room : Int) (hx : IxOk h b M n room) :
    CallsH Tryz.prog 44 [.pointer (some ⟨b, 0, none⟩), .int .u32 key, .int .i64 s] h fun v h' => Only b h h' ∧
      (((M key).isSome = true ∨ (n : Int) < room) ∧ v = .bool true ∧ IxOk h' b (setM M key (some s)) (if (M key).isSome then n else n + 1) room ∨
       M key = none ∧ (n : Int) = room ∧ v = .bool false ∧ h' = h) := by
  refine fun_ok hm' Tryz.func44 (by kernel_rfl) (F44_eq _ _ _ _ h) ?_
  obtain ⟨p, hat, hinv, hrep, hc, hle, hr1, hr2⟩ := hx
  have hemp := has_empty (p := p) (by omega)
  obtain ⟨f, hf⟩ := find_ex (key := key) hemp
  have hfl := hf.lt
  obtain ⟨arr, T, hb, ha⟩ := id hat
  obtain ⟨c1, c2, c3⟩ := ha.2.1 f hfl
  have hcu := cnt_upd p f ⟨true, key, s⟩ 128 hfl
  simp only [if_true] at hcu
  unfold F44
  refine call_of (find_at b key h p n room f hat hemp hf) ?_
  rintro v h' ⟨rfl, hh⟩
  subst h'
  refine ⟨(f : Int), rfl, cut_of ⟨⟨by omega, rfl⟩, ?_⟩⟩
  simp only [add_mk, Int.toNat_natCast, Nat.zero_add, Nat.add_zero]
  have hfin : ∀ (h1 : Heap) (arr1 : Array Value) (m : Int), Blk h1 b arr1 T → IxA arr1 p m room → Only b h h1 → ∀ (R : Heap → Prop), (∀ h2, IxAt h2 b (Ix.upd p f ⟨true, key, s⟩) m room → Only b h h2 → R h2) →
      idxW (f : Int) 128 true (stLW ⟨b, f * 3, none⟩ [.bool true, .int .u32 key, .int .i64 s] R h1) := by
    intro h1 arr1 m hb1 ha1 ho1 R hR
    refine ⟨⟨by omega, rfl⟩, stL_blk hb1 (by rw [ha1.1]; simp; omega) fun h2 hb2 ho2 => hR h2 ⟨_, _, hb2, ?_⟩ (ho1.trans ho2)⟩
    have := IxA.place ⟨true, key, s⟩ hfl ha1
    rwa [Nat.mul_comm] at this
  refine ld_of (c := .bool) (p f).t ?_ ?_
  · rw [cellH_blk hb, Nat.mul_comm]; exact c1
  rcases find_some hinv hrep hf with ⟨ht, hk, hM⟩ | ⟨ht, hM⟩
  · refine br_f (by simp [ht]) fun _ => ?_
    refine hfin h arr n hb ha (Only.refl _ _) _ fun h2 h3 ho => ⟨ho, .inl ⟨.inl (by simp [hM]), by trivial, ?_⟩⟩
    refine ⟨_, by simpa [hM] using h3, inv_put hinv hf, rep_put hrep hf, ?_, by simpa [hM] using hle, hr1, hr2⟩
    simp only [ht, if_true] at hcu; simp [hM]; omega
  · refine br_t (by simp [ht]) ?_
    refine ld_of (c := .int .i64) (n : Int) ?_ (ld_of (c := .int .i64) room ?_ ?_)
    · rw [cellH_blk hb]; exact ha.2.2.1
    · rw [cellH_blk hb]; exact ha.2.2.2
    refine br_of (fun he => ?_) (fun he => ?_)
    · have he' : (n : Int) = room := by simpa using he
      exact ⟨Only.refl _ _, .inr ⟨hM, he', by trivial, by trivial⟩⟩
    · have he' : (n : Int) ≠ room := by simpa using he
      refine ld_of (c := .int .i64) (n : Int) (by rw [cellH_blk hb]; exact ha.2.2.1) ?_
      refine st_blk hb (by rw [ha.1]; omega) fun h1 hb1 ho1 _ => ?_
      rw [wr64 (by omega) (by omega)] at hb1
      refine hfin h1 _ (n + 1) hb1 ha.many ho1 _ fun h2 h3 ho => ⟨ho, .inl ⟨.inr (by omega), by trivial, ?_⟩⟩
      refine ⟨_, by simpa [hM] using h3, inv_put hinv hf, rep_put hrep hf, ?_, by simp [hM]; omega, hr1, hr2⟩
      simp only [ht, Bool.false_eq_true, if_false] at hcu; simp [hM]; omega
theorem Upd.blk {h h' h'' : Heap} {b c : Nat} (h1 : Upd b h h') (h2 : Only c h' h'') (hc : h.size ≤ c) : Upd b h h'' :=
  ⟨by rw [h2.size]; exact h1.size, fun k hk hb => (h2.same k (by omega)).trans (h1.same k hk hb)⟩
theorem next_eq (a : Nat) (ha : a < 128) : Int.tmod (IntKind.wrap .i64 ((a : Int) + (1 : Int))) (128 : Int) = (((a + 1) % 128 : Nat) : Int) := by
  rw [wr64 (by omega) (by omega), Int.tmod_eq_emod_of_nonneg (by omega)]; omega
theorem far_eq (a b : Nat) (ha : a < 128) (hb : b < 128) : Int.tmod (IntKind.wrap .i64 ((IntKind.wrap .i64 ((b : Int) - (a : Int))) + (128 : Int))) (128 : Int) = ((dist a b : Nat) : Int) := by
  rw [wr64 (n := (b : Int) - a) (by omega) (by omega), wr64 (by omega) (by omega), Int.tmod_eq_emod_of_nonneg (by omega)]; unfold dist; omega
set_option maxHeartbeats 1000000 in
theorem drop_ok (b : Nat) (key : Int) (h : Heap) (M : Int → Option Int) (n : Nat) (room : Int) (hx : IxOk h b M n room) :
    CallsH Tryz.prog 46 [.pointer (some ⟨b, 0, none⟩), .int .u32 key] h fun v h' => Upd b h h' ∧ v = .bool (M key).isSome ∧
      IxOk h' b (setM M key none) (if (M key).isSome then n - 1 else n) room ∧ ((M key).isSome = false → h' = h) := by
  refine fun_ok hm' Tryz.func46 (by kernel_rfl) (F46_eq _ _ _ h) ?_
  obtain ⟨p, hat, hinv, hrep, hc, hle, hr1, hr2⟩ := hx
  have hemp := has_empty (p := p) (by omega)
  obtain ⟨f, hf⟩ := find_ex (key := key) hemp
  have hfl := hf.lt
  obtain ⟨arr, T, hb, ha⟩ := id hat
  obtain ⟨c1, c2, c3⟩ := ha.2.1 f hfl
  unfold F46
  refine call_of (find_at b key h p n room f hat hemp hf) ?_
  rintro v h' ⟨rfl, hh⟩
  subst h'
  refine ⟨(f : Int), rfl, ⟨by omega, rfl⟩, ?_⟩
  refine ld_of (c := .bool) (p f).t ?_ ?_
  · simp only [add_mk, Int.toNat_natCast, Nat.zero_add, Nat.add_zero]; rw [cellH_blk hb, Nat.mul_comm]; exact c1
  rcases find_some hinv hrep hf with ⟨ht, hk, hM⟩ | ⟨ht, hM⟩
  rotate_left
  · refine br_t (by simp [ht]) ⟨Upd.refl _ _, by simp [hM], ?_, fun _ => rfl⟩
    have hs : setM M key none = M := by
      funext x; unfold setM; split
      · rename_i e; rw [e, hM]
      · rfl
    rw [hs]; simp only [hM, Option.isSome_none, Bool.false_eq_true, if_false]
    exact ⟨p, hat, hinv, hrep, hc, hle, hr1, hr2⟩
  refine br_f (by simp [ht]) ?_
  refine ld_of (c := .int .i64) (n : Int) (by rw [add_mk, cellH_blk hb]; exact ha.2.2.1) ?_
  rw [add_mk]
  refine st_blk hb (by rw [ha.1]; omega) fun h1 hb1 ho1 => ?_
  have hpos := cnt_pos ht 128 hfl
  rw [wr64 (by omega) (by omega)] at hb1
  obtain ⟨e, he, het⟩ := hemp
  have hef : e ≠ f := fun e' => by subst e'; rw [ht] at het; cases het
  have hbsz := hb.lt
  have hcnt0 := cnt_upd p f emptyC 128 hfl
  have e0 : emptyC.t = false := rfl
  simp only [ht, e0, if_true, Bool.false_eq_true, if_false] at hcnt0
  -- the loops
  refine ⟨fun (s : Int × Int) h' => ∃ (q : Nat → C) (o : Nat), s = ((o : Int), (o : Int)) ∧ IxAt h' b q ((n : Int) - 1) room ∧ Hole (Ix.upd q o emptyC) o o ∧ Rep (Ix.upd q o emptyC) (setM M key none) ∧
      cnt (Ix.upd q o emptyC) 128 = n - 1 ∧ (Ix.upd q o emptyC e).t = false ∧ e ≠ o ∧ Upd b h h',
    fun (s : Int × Int) _ => dist s.2.toNat e, ⟨p, f, rfl, ⟨_, _, hb1, ha.many⟩, hole_start hinv hfl, hk ▸ rep_hole hinv hrep hfl ht, by omega, by rw [upd_ne _ _ hef]; exact het, hef, ho1.upd⟩, ?_⟩
  rintro s j h2 ⟨q, o, rfl, ⟨arr2, T2, hb2, ha2⟩, hhole, hrep2, hcnt2, he2, heo, hupd2⟩
  have ol := hhole.ol
  refine ⟨⟨by simp; omega, rfl⟩, ?_⟩
  simp only [add_mk, Int.toNat_natCast, Nat.zero_add, Nat.add_zero]
  refine stL_blk hb2 (by rw [ha2.1]; simp; omega) fun h3 hb3 ho3 => ?_
  have ha3 : IxA (setsA arr2 (o * 3) [.bool false, .int .u32 0, .int .i64 0]) (Ix.upd q o emptyC) ((n : Int) - 1) room := by
    have := IxA.place emptyC ol ha2; rwa [Nat.mul_comm] at this
  generalize hP : Ix.upd q o emptyC = P at *
  refine ⟨fun (s : Int × Int) h' => ∃ (a : Nat), s = ((o : Int), (a : Int)) ∧ IxAt h' b P ((n : Int) - 1) room ∧ Hole P o a ∧ dist a e ≤ dist o e ∧ 1 ≤ dist a e ∧ Upd b h h',
    fun (s : Int × Int) _ => dist s.2.toNat e, ⟨o, rfl, ⟨_, _, hb3, ha3⟩, hhole, Nat.le_refl _, by unfold dist; omega, hupd2.trans ho3.upd⟩, ?_⟩
  rintro s j h4 ⟨a, rfl, ⟨arr4, T4, hb4, ha4⟩, hh4, hda, hda1, hupd4⟩
  have al := hh4.al
  simp only [next_eq a al]
  generalize hg : (a + 1) % 128 = g at *
  have gl : g < 128 := by omega
  obtain ⟨d1, d2, d3⟩ := ha4.2.1 g gl
  refine ⟨⟨by omega, rfl⟩, ?_⟩
  simp only [Int.toNat_natCast, zeroPl]
  refine ldAgg_blk (T := T4) (arr := arr4) ((P g).t, (P g).k, (P g).s) hb4 (by rw [Nat.mul_comm]; exact ⟨d1, d2, d3, trivial⟩) ?_
  refine new_of fun h5 hb5 hn5 hs5 => stL_blk hb5 (by simp) fun h6 hb6 ho6 => ?_
  have hnew : New h4 h6 := ho6.upd.new hn5 (Nat.le_refl _)
  have hb4l := hb4.lt
  have hb6' : Blk h6 b arr4 T4 := hb4.new hnew
  have hupd6 : Upd b h h6 := hupd4.trans hnew.upd
  refine ld_of (c := .bool) (P g).t (by rw [add_mk, cellH_blk hb6, setsA_get]; rfl) ?_
  refine br_of (fun hn => ?_) (fun hn => ?_)
  · have hgn : (P g).t = false := by simpa using hn
    have hend := hole_end hh4 (by rw [hg]; exact hgn)
    refine ⟨hupd6, by simp [hM], ?_, fun hh => by simp [hM] at hh⟩
    simp only [hM, Option.isSome_some, if_true]
    refine ⟨P, ⟨arr4, T4, hb6', ?_⟩, hend, hrep2, hcnt2, by omega, hr1, hr2⟩
    rw [show ((n - 1 : Nat) : Int) = (n : Int) - 1 by omega]; exact ha4
  · have hgt : (P g).t = true := by simpa using hn
    have hgo : g ≠ o := fun e' => by subst e'; rw [hh4.none] at hgt; cases hgt
    have hge : g ≠ e := fun e' => by subst e'; rw [he2] at hgt; cases hgt
    refine ld_of (c := .int .u32) (P g).k (by rw [add_mk, cellH_blk hb6, setsA_get]; rfl) ?_
    refine call_of (home_ok (P g).k h6) ?_
    rintro v h7 ⟨rfl, hh⟩
    subst h7
    refine ⟨(hm (P g).k : Int), rfl, ?_⟩
    have hml := hm_lt (P g).k
    rw [far_eq _ _ hml gl, far_eq _ _ ol gl]
    have hdec : dist g e < dist a e := by unfold dist at *; omega
    refine br_of (fun hfar => ?_) (fun hfar => ?_)
    · have hfar' : dist o g ≤ dist (hm (P g).k) g := by simpa using hfar
      refine ldAgg_blk (T := 82) ((P g).t, (P g).k, (P g).s) hb6 ⟨by rw [setsA_get]; rfl, by rw [setsA_get]; rfl, by rw [setsA_get]; rfl, trivial⟩ ?_
      refine ⟨⟨by omega, rfl⟩, stL_blk hb6' (by rw [ha4.1]; simp; omega) fun h8 hb8 ho8 => ?_⟩
      have ha8 := IxA.place (P g) ol ha4
      rw [Nat.mul_comm] at ha8
      have hmv := hole_move hh4 (by rw [hg]; exact hgt) (by rw [hg]; exact hfar')
      rw [hg] at hmv
      refine ⟨⟨Ix.upd P o (P g), g, rfl, ⟨_, _, hb8, ha8⟩, hmv, rep_move hrep2 ol gl hh4.none hgo hgt, (cnt_move ol gl hh4.none hgo hgt).trans hcnt2, ?_, Ne.symm hge, hupd6.trans ho8.upd⟩, ?_⟩
      · rw [upd_ne _ _ (Ne.symm hge), upd_ne _ _ heo]; exact he2
      · show dist (Int.toNat (g : Int)) e < dist (Int.toNat (o : Int)) e
        rw [Int.toNat_natCast, Int.toNat_natCast]; omega
    · have hfar' : dist (hm (P g).k) g < dist o g := by simpa using hfar
      have hst := hole_stay hh4 (by rw [hg]; exact hgt) (by rw [hg]; exact hfar')
      rw [hg] at hst
      refine ⟨⟨g, rfl, ⟨arr4, T4, hb6', ha4⟩, hst, by omega, by unfold dist at *; omega, hupd6⟩, ?_⟩
      show dist (Int.toNat (g : Int)) e < dist (Int.toNat (a : Int)) e
      rw [Int.toNat_natCast, Int.toNat_natCast]; omega
end Go.Proofs.YtfanjfbenhocnaaGreatDoor.Ix
