/-
  ZnsSure of layer 7: the law.
-/
import Derived.Test.YtgohecjnjadnpaaDoorL7T
import Derived.Test.YtgohecjnjadnpaaDoorL7E
namespace Go.Proofs.YtgohecjnjadnpaaDoor.L7U
open Go.Pl Go.Proofs.YtgohecjnjadnpaaDoor.W Go.Proofs.YtgohecjnjadnpaaDoor.Byts Go.Proofs.YtgohecjnjadnpaaDoor.As Go.Proofs.YtgohecjnjadnpaaDoor.Zns Go.Proofs.YtgohecjnjadnpaaDoor.L7A Go.Proofs.YtgohecjnjadnpaaDoor.L7S Go.Proofs.YtgohecjnjadnpaaDoor.L7T
theorem sizeI : sizeN Tryd.prog 3 = 1 := by kernel_rfl
theorem zeroI : zeroC Tryd.prog 3 = #[.int .i64 0] := by kernel_rfl
theorem bytesI : bytesN Tryd.prog 3 = 8 := by kernel_rfl
theorem zeroW : (zeroC Tryd.prog 66).size = 3 := by kernel_rfl
theorem zeroTS : (zeroC Tryd.prog 58).size = 3 := by kernel_rfl
/-- The row of acts stays. -/
def AR (A : Option Addr) (h5 : Heap) (t : Tags) (h : Heap) : Prop := ∀ g, blkOf A = some g → g < h5.size → g < h.size ∧ (t g).1 = 0 ∧ h[g]? = h5[g]?
theorem AR.fr {S : Nat × Nat → Prop} {A : Option Addr} {h5 h h' : Heap} {t t' : Tags} (r : AR A h5 t h) (s : Fr S t h t' h') (hS : ∀ p : Nat × Nat, p.1 = 0 → S p) : AR A h5 t' h' := fun g hg hl => by
  obtain ⟨h1, h2, h3⟩ := r g hg hl
  exact ⟨Nat.lt_of_lt_of_le h1 s.size, by rw [s.tags g h1]; exact h2, (s.same g h1 (hS _ h2)).trans h3⟩
/-- A block that stays. -/
structure Lz (t : Tags) (h : Heap) (g : Nat) (A : Array Value) (T : TypeId) : Prop where
  blk : Blk h g A T
  tag : (t g).1 = 0
theorem Lz.fr {S : Nat × Nat → Prop} {h h' : Heap} {t t' : Tags} {g : Nat} {A : Array Value} {T : TypeId} (r : Lz t h g A T) (s : Fr S t h t' h') (hS : ∀ p : Nat × Nat, p.1 = 0 → S p) : Lz t' h' g A T := ⟨s.blk r.blk (hS _ r.tag), by rw [s.tags g r.blk.lt]; exact r.tag⟩
structure St (h0 : Heap) (A : Option Addr) (h5 : Heap) (bp : Nat) (D : Dev) (t : Tags) (h : Heap) : Prop where
  bs : Bs h0 t h
  rp : PRep 1 t h bp D
  ar : AR A h5 t h
theorem St.fr {S : Nat × Nat → Prop} {h0 h5 h h' : Heap} {A : Option Addr} {bp : Nat} {D : Dev} {t t' : Tags} (r : St h0 A h5 bp D t h) (s : Fr S t h t' h') (hS : ∀ p : Nat × Nat, p.1 = 0 → S p) (h1 : ∀ j, S (1, j)) : St h0 A h5 bp D t' h' := ⟨r.bs.fr s hS, r.rp.fr s hS h1, r.ar.fr s hS⟩
theorem tr0 : ∀ p : Nat × Nat, p.1 = 0 → (fun _ : Nat × Nat => True) p := fun _ _ => trivial
theorem St.new {h0 h5 h h' : Heap} {A : Option Addr} {bp : Nat} {D : Dev} {t : Tags} (r : St h0 A h5 bp D t h) (n : New h h') : St h0 A h5 bp D t h' := r.fr (S := fun _ => True) (Fr.new0 n) tr0 fun _ => trivial
theorem ne3 (q : Nat) : ∀ p : Nat × Nat, p.1 = 0 → p ≠ (3, q) := fun p hp e => by subst e; exact absurd (show (3 : Nat) = 0 from hp) (by decide)
theorem ne31 (q : Nat) : ∀ j, ((1, j) : Nat × Nat) ≠ (3, q) := fun j e => absurd (show (1 : Nat) = 3 from congrArg Prod.fst e) (by decide)
theorem act_zs (D : Dev) (x : L7A.Act) : (act D x).1.zs.length = D.zs.length := L7E.act_len D x
theorem sure_law (h : Heap) (v0 v1 v2 v3 v4 : Value) (zn pc : Int) (l : List ActT) (keep : List Int) (tear : List Bool) (r0 : ReadsV h (.int .i64) v0 zn) (r1 : ReadsV h (.int .i64) v1 pc) (r2 : ReadsV h (.slice ActS) v2 l) (r3 : ReadsV h (.slice (.int .i64)) v3 keep) (r4 : ReadsV h (.slice .bool) v4 tear) (hg : Laid h) :
    CallsH Tryd.prog 7 [v0, v1, v2, v3, v4] h fun v h' => v = .bool true ∧ New h h' := by
  obtain ⟨rfl⟩ : v0 = .int .i64 zn := by obtain ⟨cs, hcs, e, _⟩ := r0; simp only at hcs; subst hcs; injection e
  obtain ⟨rfl⟩ : v1 = .int .i64 pc := by obtain ⟨cs, hcs, e, _⟩ := r1; simp only at hcs; subst hcs; injection e
  obtain ⟨a, c, rfl, _, _, _, sl⟩ := SlAt.reads r2
  obtain ⟨ka, kc, rfl, rr3⟩ : ∃ ka kc, v3 = .slice ka keep.length kc ∧ Reads h (.slice (.int .i64)) [.slice ka keep.length kc] keep := by
    obtain ⟨cs, hcs, rr⟩ := r3
    simp only at hcs; subst hcs
    obtain ⟨ka, kc, e, _⟩ := ints_in rr
    injection e with e; subst e
    exact ⟨ka, kc, rfl, rr⟩
  obtain ⟨ta, tc, rfl, rr4⟩ : ∃ ta tc, v4 = .slice ta tear.length tc ∧ Reads h (.slice .bool) [.slice ta tear.length tc] tear := by
    obtain ⟨cs, hcs, rr⟩ := r4
    simp only at hcs; subst hcs
    obtain ⟨ta, tc, e, _⟩ := bools_in rr
    injection e with e; subst e
    exact ⟨ta, tc, rfl, rr⟩
  obtain ⟨xc, hxc⟩ : ∃ xc : ActT, xc = ((6, 0, 0, [], keep, tear) : ActT) := ⟨_, rfl⟩
  have rx : Reads h ActS (actA (actOf xc) none ka ta 0 kc tc).toList xc := by
    subst hxc
    exact ⟨[.int .i64 6], _, rfl, ⟨rfl, show (Lit.int .i64 6).wf = true by decide⟩, [.int .i64 0], _, rfl, ⟨rfl, show (Lit.int .i64 0).wf = true by decide⟩, [.int .i64 0], _, rfl, ⟨rfl, show (Lit.int .i64 0).wf = true by decide⟩, [.slice none 0 0], _, rfl, ⟨none, 0, rfl, Nat.le_refl _, Nat.zero_le _, fun _ => rfl, fun i x hx => by change ([] : List Int)[i]? = some x at hx; simp at hx⟩, [.slice ka keep.length kc], [.slice ta tear.length tc], rfl, rr3, rr4⟩
  refine fun_ok hm' Tryd.func7 (by kernel_rfl) (F7_eq zn pc a l.length c ka keep.length kc ta tear.length tc _ h) ?_
  unfold F7
  refine call_of (L7.awake_ok h hg) ?_
  rintro v h1 ⟨rfl, n1⟩
  refine ⟨true, rfl, br_f rfl ?_⟩
  by_cases hn : ¬ ((1 ≤ zn ∧ zn ≤ 24) ∧ 1 ≤ pc ∧ pc ≤ 16)
  · refine call_of (ZnsP.new_no zn pc h1 hn) ?_
    rintro v h' ⟨rfl, hh⟩; subst h'
    refine ⟨(none, errV 1), rfl, cut_q (ts := []) (fun _ _ => False) (fun _ _ hf _ => hf.elim) ?_⟩
    intro K hK
    exact br_t rfl ⟨rfl, n1⟩
  have hn := Classical.not_not.1 hn
  obtain ⟨m, rfl⟩ := Int.eq_ofNat_of_zero_le (show 0 ≤ zn by omega)
  obtain ⟨pp, rfl⟩ := Int.eq_ofNat_of_zero_le (show 0 ≤ pc by omega)
  have bs1 : Bs h (fun _ => (0, 0)) h1 := (Bs.start hg).newer n1
  refine call_of (ZnsP.new_ok 1 (by decide) (fun _ => (0, 0)) m pp h1 (by omega) (by omega)) ?_
  rintro v h2 ⟨bp, rfl, n2, _, t2, ht2, rp2⟩
  have bs2 := bs1.tags n2 ht2
  have o0 : DevOk (Dev.empty m pp) := DevOk.empty (by omega) (by omega)
  refine ⟨(some ⟨bp, 0, none⟩, errV 0), rfl, cut_q (ts := []) (fun _ h' => New h2 h' ∧ isLarge l = false) ?_ ?_⟩
  rotate_left
  · intro K hK
    refine br_f rfl (br_of (fun _ => ⟨rfl, bs2.new⟩) fun _ => call_of (large_ok a c l h2 (sl.new bs2.new)) ?_)
    rintro v h3 ⟨rfl, n3⟩
    have n03 := (bs2.newer n3).new
    exact ⟨isLarge l, rfl, br_of (fun _ => ⟨rfl, n03⟩) fun hl => br_of (fun _ => ⟨rfl, n03⟩) fun _ => br_of (fun _ => ⟨rfl, n03⟩) fun _ => hK () _ ⟨n3, hl⟩⟩
  rintro _ h3 ⟨n3, hlg⟩ _
  obtain ⟨hlen, hsm⟩ := notLarge hlg
  have bs3 := bs2.newer n3
  have rp3 := rp2.new n3
  have hx0 : actOf xc = ⟨6, 0, 0, [], keep, tear⟩ := by rw [hxc]; rfl
  have all := fun (F : Option Addr → Nat → Nat → Heap → Prop) hF => acts_all (c := c) sl bs3.new hlen xc ka ta kc tc rx (F := F) hF
  rw [hx0] at all
  refine all _ fun A cA h5 n35 hA mix => ?_
  have hLl : (l ++ [xc]).length = l.length + 1 := by simp
  have hLs : ∀ y ∈ l ++ [xc], y.2.2.2.1.length ≤ 1000 := fun y hy => by
    rcases List.mem_append.1 hy with hy | hy
    · have := (hsm y hy).1; omega
    · obtain rfl := List.mem_singleton.1 hy; rw [hxc]; exact Nat.zero_le _
  have hLx : ∀ (hi : l.length < (l ++ [xc]).length), (actOf (l ++ [xc])[l.length]).op = 6 := fun hi => by
    have : (l ++ [xc])[l.length] = xc := by simp
    rw [this, hx0]
  generalize l ++ [xc] = L at mix hLl hLs hLx
  have S5 : St h A h5 bp (Dev.empty m pp) (lay t2 h3.size (0, 0)) h5 := ⟨bs3.fr (S := fun _ => True) (Fr.lay n35 _) tr0, ZnsP.PRep.lay rp3 n35, fun g hg hl => ⟨hl, by rw [lay_ge (hA g hg).1], rfl⟩⟩
  generalize lay t2 h3.size (0, 0) = t5 at S5
  refine ⟨fun (s : (Option Addr × Nat × Nat) × Int) h' => ∃ (i : Nat) (D : Dev) (t : Tags) (ws : List Wr) (p : Nat), s.2 = i ∧ i ≤ L.length ∧ DevOk D ∧ D.zs.length = m ∧ ws.length ≤ i ∧ (i = L.length → D.down = false) ∧ (∀ w ∈ ws, KOk D w) ∧ s.1.2.1 = ws.length ∧ St h A h5 bp D t h' ∧ WRow (3, p) t h' s.1.1 s.1.2.2 ws,
    fun (s : (Option Addr × Nat × Nat) × Int) _ => ((L.length : Int) - s.2).toNat, ⟨0, _, t5, [], 0, rfl, Nat.zero_le _, o0, by simp [Dev.empty], Nat.le_refl _, (fun e => by rw [hLl] at e; cases e), (fun w hw => by cases hw), rfl, S5, WRow.nil _ _ _⟩, ?_⟩
  rintro ⟨⟨wa, wn, wc⟩, s⟩ j h6 ⟨i, D, t6, ws, p, hs, hi, o, hzl, hwi, hdn, hk, hwn, S6, W6⟩
  simp only [] at hs hwn W6
  subst hs; subst hwn
  refine br_of (fun hlt => ?_) (fun hlt => ?_)
  rotate_left
  -- what is kept is read
  · have hlt : ¬ (i : Int) < ((l.length + 1 : Nat) : Int) := of_decide_eq_false hlt
    have hie : i = L.length := by omega
    have hd := hdn hie
    refine ⟨fun (s : Int) h' => ∃ k : Nat, s = k ∧ k ≤ ws.length ∧ New h6 h', fun (s : Int) _ => ((ws.length : Int) - s).toNat, ⟨0, rfl, Nat.zero_le _, New.refl h6⟩, ?_⟩
    rintro s j2 h7 ⟨k, rfl, hkl, n67⟩
    have S7 := S6.new n67
    refine br_of (fun hlt2 => ?_) (fun _ => ?_)
    rotate_left
    · refine call_of (ZnsP.down_ok h7 S7.rp) ?_
      rintro v h' ⟨rfl, hh⟩; subst h'
      refine ⟨D.down, rfl, ?_⟩
      rw [hd]
      exact ⟨rfl, S7.bs.new⟩
    have hlt2 : (k : Int) < (ws.length : Int) := of_decide_eq_true hlt2
    have hlt2 : k < ws.length := by omega
    have W7 : WRow (3, p) t6 h7 wa wc ws := W6.fr (S := fun _ => True) (Fr.new0 n67) tr0 trivial
    obtain ⟨a8, c8, im8, ld8⟩ := W7.ld hlt2
    refine ld8 hlt2 (new_stL (by rw [zeroW]; rfl) fun h8 b8 n8 s8 => ?_)
    have hkw := hk _ (List.getElem_mem hlt2)
    generalize ws[k] = w at im8 hkw b8
    have b8 : Blk h8 h7.size #[.int .i64 w.1, .int .i64 w.2.1, .slice a8 w.2.2.length c8] 66 := b8
    have S8 := S7.new n8
    refine ld_of (c := .int .i64) w.1 (by rw [add_mk, cellH_blk b8]; rfl) (ld_of (c := .int .i64) w.2.1 (by rw [add_mk, cellH_blk b8]; rfl) (call_of (ZnsP.read_ok o w.1 w.2.1 h8 S8.rp) ?_))
    rintro v h9 ⟨a9, c9, rfl, g9⟩
    refine ⟨((a9, (D.read w.1 w.2.1).1.length, c9), errV (D.read w.1 w.2.1).2), rfl, call_of (code_err (D.read w.1 w.2.1).2 h9 (S8.bs.newer g9.new).lay) ?_⟩
    rintro v h10 ⟨rfl, n10⟩
    have n710 := (n8.trans g9.new).trans n10
    have next : ((fun (s : Int) h' => ∃ k : Nat, s = k ∧ k ≤ ws.length ∧ New h6 h') (IntKind.wrap .i64 ((k : Int) + 1)) h10) ∧ ((ws.length : Int) - IntKind.wrap .i64 ((k : Int) + 1)).toNat < ((ws.length : Int) - k).toNat := by
      rw [wr64 (by omega) (by omega)]
      exact ⟨⟨k + 1, rfl, hlt2, n67.trans n710⟩, by omega⟩
    refine ⟨(D.read w.1 w.2.1).2, rfl, br_of (fun hne => ?_) fun _ => next⟩
    rcases read_kept o hd hkw with e6 | e0
    · rw [e6] at hne; exact absurd hne (by decide)
    have e1 : (D.read w.1 w.2.1).1 = w.2.2 := by rw [e0]
    have e2 : (D.read w.1 w.2.1).2 = 0 := by rw [e0]
    have h33 : (D.read w.1 w.2.1).1.length ≤ 9223372036854775806 := by
      rw [e1]
      obtain ⟨_, _, _, h33, _⟩ := hkw
      omega
    refine br_f (by rw [e2]; rfl) (ld_of (c := .slice) (a8, w.2.2.length, c8) (by rw [add_mk, cellH_blk (b8.new (g9.new.trans n10))]; rfl) (call_of (Same3.same_ok _ _ _ _ _ _ h10 (D.read w.1 w.2.1).1 w.2.2 rfl rfl h33 (g9.ar.new n10) (im8.ar.new n710)) ?_))
    rintro v h' ⟨rfl, hh⟩; subst h'
    exact ⟨true, by rw [decide_eq_true e1] <;> rfl, br_f rfl next⟩
  -- an act
  have hlt : (i : Int) < ((l.length + 1 : Nat) : Int) := of_decide_eq_true hlt
  have hltN : i < l.length + 1 := by omega
  have hlt : i < L.length := by omega
  obtain ⟨ba, bc, ka, kc, ta, tc, hin, ld⟩ := mix_ld mix (fun g hg hl => (S6.ar g hg hl).2.2) hlt
  have hin := hin (hLs _ (List.getElem_mem hlt))
  have hx6 : i + 1 = L.length → (actOf L[i]).op = 6 := fun e => by
    have : i = l.length := by omega
    subst this; exact hLx hlt
  refine ld hltN (new_stL (by rw [zeroAct]; rfl) fun h7 b7 n7 s7 => ?_)
  have b7 : Blk h7 h6.size (actA (actOf L[i]) ba ka ta bc kc tc) 56 := b7
  generalize actOf L[i] = x at hin b7 hx6
  have rp7 := S6.rp.new n7
  refine mk_of (n := m) sizeI zeroI (by rw [bytesI]; omega) (by omega) fun h8 b8 n8 s8 => ?_
  refine ⟨fun (s : Int) h' => ∃ (z : Nat) (xs : List Int), s = z ∧ z ≤ m ∧ xs.length = m ∧ (∀ q, q < z → xs[q]? = some (D.sure (q : Int) : Int)) ∧ New h7 h' ∧ Blk h' h7.size (xs.map (Value.int .i64)).toArray 3, fun (s : Int) _ => ((m : Int) - s).toNat, ⟨0, List.replicate m 0, rfl, Nat.zero_le _, by simp, (fun q hq => by omega), n8, by rw [List.map_replicate, List.toArray_replicate]; exact b8⟩, ?_⟩
  rintro s j2 h9 ⟨z, xs, rfl, hz, hxl, hxs, n79, b9⟩
  refine br_of (fun hlt2 => ?_) (fun hlt2 => ?_)
  · have hlt2 : z < m := by have := of_decide_eq_true hlt2; omega
    refine call_of (ZnsP.sure_ok (z : Int) h9 (rp7.new n79)) ?_
    rintro v h10 ⟨rfl, n10⟩
    refine ⟨(D.sure (z : Int) : Int), rfl, ptr_of (ix_of hlt2 ?_)⟩
    rw [add_mk, Int.toNat_natCast, Nat.zero_add, Nat.mul_one]
    refine st_blk (b9.new n10) (by simp; omega) fun h11 b11 o11 => ?_
    rw [wr64 (by omega) (by omega)]
    have es : ((xs.map (Value.int .i64)).toArray.setIfInBounds z (.int .i64 (D.sure (z : Int) : Int))) = ((xs.set z (D.sure (z : Int) : Int)).map (Value.int .i64)).toArray := by simp [List.map_set]
    rw [es] at b11
    refine ⟨⟨z + 1, _, rfl, hlt2, by simpa using hxl, fun q hq => ?_, o11.upd.new (n79.trans n10) (Nat.le_refl _), b11⟩, (by first | omega | (dsimp only; omega) | (simp only []; omega))⟩
    by_cases e : z = q
    · subst e; rw [List.getElem?_set_self (by omega)]
    · rw [List.getElem?_set_ne e]; exact hxs q (by omega)
  have hzm : m = z := by have := of_decide_eq_false hlt2; omega
  subst hzm
  have n69 := n7.trans n79
  have S9 : St h A h5 bp D (lay t6 h6.size (0, 0)) h9 := S6.fr (S := fun _ => True) (Fr.lay n69 _) tr0 fun _ => trivial
  have W9 : WRow (3, p) (lay t6 h6.size (0, 0)) h9 wa wc ws := W6.fr (S := fun _ => True) (Fr.lay n69 _) tr0 trivial
  have x9 : Lz (lay t6 h6.size (0, 0)) h9 h6.size (actA x ba ka ta bc kc tc) 56 := ⟨b7.new n79, by rw [lay_ge (Nat.le_refl _)]⟩
  have y9 : Lz (lay t6 h6.size (0, 0)) h9 h7.size (xs.map (Value.int .i64)).toArray 3 := ⟨b9, by rw [lay_ge n7.size]⟩
  generalize lay t6 h6.size (0, 0) = t9 at S9 W9 x9 y9
  refine ldAct x9.blk (call_of (do_ok o x ba ka ta bc kc tc h9 S9.bs hin S9.rp (by decide)) ?_)
  rintro v h10 ⟨a10, c10, t10, rfl, rp10, f10, _⟩
  refine ⟨((act D x).2.n, (act D x).2.e, (a10, (act D x).2.b.length, c10)), rfl, new_stL (by rw [zeroTS]; rfl) fun h11 b11 n11 s11 => ?_⟩
  have b11 : Blk h11 h10.size #[.int .i64 (act D x).2.n, .int .i64 (act D x).2.e, .slice a10 (act D x).2.b.length c10] 58 := b11
  have S10 : St h A h5 bp (act D x).1 t10 h10 := ⟨S9.bs.own (by decide) f10, rp10, S9.ar.fr f10 L7.own1⟩
  have oE := DevOk.act o hin
  have f911 := f10.trans (Fr.lay (t := t10) n11 (0, 0))
  have S11 : St h A h5 bp (act D x).1 (lay t10 h10.size (0, 0)) h11 := S10.fr (S := fun _ => True) (Fr.lay n11 _) tr0 fun _ => trivial
  have W11 : WRow (3, p) (lay t10 h10.size (0, 0)) h11 wa wc ws := W9.fr f911 L7.own1 (by decide : (3 : Nat) ≠ 1)
  have x11 := x9.fr f911 L7.own1
  have y11 := y9.fr f911 L7.own1
  have z11 : Lz (lay t10 h10.size (0, 0)) h11 h10.size #[.int .i64 (act D x).2.n, .int .i64 (act D x).2.e, .slice a10 (act D x).2.b.length c10] 58 := ⟨b11, by rw [lay_ge (Nat.le_refl _)]⟩
  clear f911
  generalize lay t10 h10.size (0, 0) = t11 at S11 W11 x11 y11 z11
  refine cut_q (ts := [.sc .slice]) (fun (s : Option Addr × Nat × Nat) h' => ∃ t, s.2.1 = (plus x (act D x).2 ws).length ∧ St h A h5 bp (act D x).1 t h' ∧ WRow (3, p) t h' s.1 s.2.2 (plus x (act D x).2 ws) ∧ Lz t h' h6.size (actA x ba ka ta bc kc tc) 56 ∧ Lz t h' h7.size (xs.map (Value.int .i64)).toArray 3 ∧ Lz t h' h10.size #[.int .i64 (act D x).2.n, .int .i64 (act D x).2.e, .slice a10 (act D x).2.b.length c10] 58) ?_ ?_
  rotate_left
  · intro K hK
    have cX : ∀ {h' : Heap} {t' : Tags}, Lz t' h' h6.size (actA x ba ka ta bc kc tc) 56 → ∀ (q : Nat) (v : Value), (actA x ba ka ta bc kc tc)[q]? = some v → cellH h' (Addr.add ⟨h6.size, 0, none⟩ q) = some v := fun lz q v hv => by rw [add_mk, cellH_blk lz.blk, Nat.zero_add]; exact hv
    refine cut_q (ts := [.sc .bool]) (fun (s : Bool) h' => h' = h11 ∧ s = decide (x.op = 0 ∧ (act D x).2.e = 0)) ?_ ?_
    rotate_left
    · intro K2 hK2
      refine ld_of (c := .int .i64) x.op (cX x11 0 _ rfl) (br_of (fun h0 => ?_) fun h0 => hK2 _ _ ⟨rfl, ?_⟩)
      · have h0 : x.op = 0 := by simpa using h0
        refine ld_of (c := .int .i64) (act D x).2.e (by rw [add_mk, cellH_blk z11.blk]; rfl) (hK2 _ _ ⟨rfl, ?_⟩)
        rw [Bool.eq_iff_iff]; simp [h0]
      · have h0 : x.op ≠ 0 := by simpa using h0
        rw [decide_eq_false (fun e => h0 e.1)]
    rintro s h' ⟨hh, hs⟩ _; subst h'
    have hs : s = decide (x.op = 0 ∧ (act D x).2.e = 0) := hs
    refine br_of (fun hb => ?_) (fun hb => ?_)
    rotate_left
    · rw [hs] at hb
      have hb := of_decide_eq_false hb
      have ep : plus x (act D x).2 ws = ws := if_neg hb
      exact hK _ _ ⟨t11, by rw [ep], S11, by rw [ep]; exact W11, x11, y11, z11⟩
    rw [hs] at hb
    have hb := of_decide_eq_true hb
    have ep : plus x (act D x).2 ws = ws ++ [(x.zone, (act D x).2.n, x.b)] := if_pos hb
    refine ld_of (c := .int .i64) x.zone (cX x11 1 _ rfl) (ld_of (c := .int .i64) (act D x).2.n (by rw [add_mk, cellH_blk z11.blk]; rfl) (ld_of (c := .slice) (ba, x.b.length, bc) (cX x11 3 _ rfl) (new_of fun h12 b12 n12 s12 => ?_)))
    have im12 : Im .u8 t11 h12 ba x.b := (S11.bs.im hin.b).new n12
    refine bytes_copy rfl im12 hin.lb fun a13 c13 h13 im13 n13 => ?_
    have f13 : Fr (fun _ => True) t11 h11 (lay t11 h12.size (0, 0)) h13 := (Fr.new0 n12).trans (Fr.lay n13 _)
    have S13 := S11.fr f13 tr0 fun _ => trivial
    have W13 := W11.fr f13 tr0 trivial
    have x13 := x11.fr f13 tr0
    have y13 := y11.fr f13 tr0
    have z13 := z11.fr f13 tr0
    generalize lay t11 h12.size (0, 0) = t13 at S13 W13 x13 y13 z13 im13
    refine ⟨by rw [add_mk, cellH_blk z13.blk]; rfl, cX x13 1 _ rfl, WRow.push W13 (show (3 : Nat) ≠ 0 by decide) im13 (by omega) fun a14 c14 h14 t14 f14 W14 => ?_⟩
    have x14 := x13.fr f14 (ne3 p)
    have z14 := z13.fr f14 (ne3 p)
    refine ⟨by rw [add_mk, cellH_blk z14.blk]; rfl, cX x14 1 _ rfl, hK _ _ ⟨t14, ?_, S13.fr f14 (ne3 p) (ne31 p), by rw [ep]; exact W14, x14, y13.fr f14 (ne3 p), z14⟩⟩
    rw [ep, List.length_append]; rfl
  rintro ⟨pa, pn, pcp⟩ h18 ⟨t18, hpn, S18, W18, x18, y18, z18⟩ _
  simp only [] at hpn W18
  subst hpn
  have hpl := plus_len x (act D x).2 ws
  have hkept := kept_step o x ws hk
  have hact_s := act_sure o x
  have hact_c := crash_sure D x
  have hact_u := crash_up D x
  generalize plus x (act D x).2 ws = ps at W18 hpl hkept
  refine new_of fun h19 b19 n19 s19 => ?_
  have f19 : Fr (fun _ => True) t18 h18 (lay t18 h18.size (3, p + 1)) h19 := Fr.lay n19 _
  have S19 := S18.fr f19 tr0 fun _ => trivial
  have W19 := W18.fr f19 tr0 trivial
  have x19 := x18.fr f19 tr0
  have y19 := y18.fr f19 tr0
  have z19 := z18.fr f19 tr0
  have N19 : WRow (3, p + 1) (lay t18 h18.size (3, p + 1)) h19 (some ⟨h18.size, 0, none⟩) 0 [] := WRow.start b19.lt (lay_ge (Nat.le_refl _))
  generalize lay t18 h18.size (3, p + 1) = t19 at S19 W19 x19 y19 z19 N19
  refine ⟨fun (s : (Option Addr × Nat × Nat) × Int) h' => ∃ (k : Nat) (t : Tags) (ns : List Wr), s.2 = k ∧ k ≤ ps.length ∧ s.1.2.1 = ns.length ∧ ns = (ps.take k).filter (stays x (act D x).2.e (act D x).1) ∧ St h A h5 bp (act D x).1 t h' ∧ WRow (3, p) t h' pa pcp ps ∧ WRow (3, p + 1) t h' s.1.1 s.1.2.2 ns ∧ Lz t h' h6.size (actA x ba ka ta bc kc tc) 56 ∧ Lz t h' h7.size (xs.map (Value.int .i64)).toArray 3 ∧ Lz t h' h10.size #[.int .i64 (act D x).2.n, .int .i64 (act D x).2.e, .slice a10 (act D x).2.b.length c10] 58,
    fun (s : (Option Addr × Nat × Nat) × Int) _ => ((ps.length : Int) - s.2).toNat, ⟨0, t19, [], rfl, Nat.zero_le _, rfl, by simp, S19, W19, N19, x19, y19, z19⟩, ?_⟩
  rintro ⟨⟨na, nn, nc⟩, s⟩ j3 h20 ⟨k, t20, ns, hs, hkl, hnn, hns, S20, W20, N20, x20, y20, z20⟩
  simp only [] at hs hnn N20
  subst hs; subst hnn
  have hnl : ns.length ≤ ps.length := by rw [hns]; exact Nat.le_trans (List.length_filter_le _ _) (by rw [List.length_take]; omega)
  refine br_of (fun hlt3 => ?_) (fun hlt3 => ?_)
  · have hlt3 : (k : Int) < (ps.length : Int) := of_decide_eq_true hlt3
    have hlt3 : k < ps.length := by omega
    obtain ⟨a20, c20, im20, ld20⟩ := W20.ld hlt3
    refine ld20 hlt3 (new_stL (by rw [zeroW]; rfl) fun h21 b21 n21 s21 => ?_)
    have htk : ps.take (k + 1) = ps.take k ++ [ps[k]] := (List.take_append_getElem hlt3).symm
    generalize ps[k] = w at im20 b21 htk
    have b21 : Blk h21 h20.size #[.int .i64 w.1, .int .i64 w.2.1, .slice a20 w.2.2.length c20] 66 := b21
    have S21 := S20.new n21
    refine cut_q (ts := [.sc .bool]) (fun (s : Bool) h' => New h21 h' ∧ s = stays x (act D x).2.e (act D x).1 w) ?_ ?_
    rotate_left
    · intro K hK
      have c80 : ∀ (q : Nat) (v : Value), (#[.int .i64 w.1, .int .i64 w.2.1, .slice a20 w.2.2.length c20] : Array Value)[q]? = some v → cellH h21 (Addr.add ⟨h20.size, 0, none⟩ q) = some v := fun q v hv => by rw [add_mk, cellH_blk b21, Nat.zero_add]; exact hv
      have bx := x20.blk.new n21
      have bz := z20.blk.new n21
      refine ld_of (c := .int .i64) x.op (by rw [add_mk, cellH_blk bx]; rfl) (br_of (fun hop => ?_) fun hop => ?_)
      · have hop : x.op ≠ 2 := by simpa using hop
        exact ld_of (c := .int .i64) w.2.1 (c80 1 (.int .i64 w.2.1) rfl) (ld_of (c := .int .i64) w.1 (c80 0 (.int .i64 w.1) rfl) (call_of (ZnsP.point_ok w.1 h21 S21.rp) (fun v h' hv => by
        obtain ⟨rfl, nn⟩ := hv
        refine ⟨((act D x).1.point w.1 : Int), rfl, ?_, hK _ _ ⟨nn, ?_⟩⟩
        · rw [add_mk, cellH_blk (b21.new nn)]; rfl
        · unfold stays; exact decide_eq_decide.2 ⟨fun hlt => ⟨.inl hop, hlt⟩, fun hh => hh.2⟩)))
      have hop : x.op = 2 := by simpa using hop
      refine ld_of (c := .int .i64) (act D x).2.e (by rw [add_mk, cellH_blk bz]; rfl) (br_of (fun he => ?_) fun he => ?_)
      · have he : (act D x).2.e ≠ 0 := by simpa using he
        exact ld_of (c := .int .i64) w.2.1 (c80 1 (.int .i64 w.2.1) rfl) (ld_of (c := .int .i64) w.1 (c80 0 (.int .i64 w.1) rfl) (call_of (ZnsP.point_ok w.1 h21 S21.rp) (fun v h' hv => by
        obtain ⟨rfl, nn⟩ := hv
        refine ⟨((act D x).1.point w.1 : Int), rfl, ?_, hK _ _ ⟨nn, ?_⟩⟩
        · rw [add_mk, cellH_blk (b21.new nn)]; rfl
        · unfold stays; exact decide_eq_decide.2 ⟨fun hlt => ⟨.inr (.inl he), hlt⟩, fun hh => hh.2⟩)))
      have he : (act D x).2.e = 0 := by simpa using he
      refine ld_of (c := .int .i64) w.1 (c80 0 _ rfl) (ld_of (c := .int .i64) x.zone (by rw [add_mk, cellH_blk bx]; rfl) (br_of (fun hz => ?_) fun hz => ?_))
      · have hz : w.1 ≠ x.zone := by simpa using hz
        exact ld_of (c := .int .i64) w.2.1 (c80 1 (.int .i64 w.2.1) rfl) (ld_of (c := .int .i64) w.1 (c80 0 (.int .i64 w.1) rfl) (call_of (ZnsP.point_ok w.1 h21 S21.rp) (fun v h' hv => by
        obtain ⟨rfl, nn⟩ := hv
        refine ⟨((act D x).1.point w.1 : Int), rfl, ?_, hK _ _ ⟨nn, ?_⟩⟩
        · rw [add_mk, cellH_blk (b21.new nn)]; rfl
        · unfold stays; exact decide_eq_decide.2 ⟨fun hlt => ⟨.inr (.inr hz), hlt⟩, fun hh => hh.2⟩)))
      have hz : w.1 = x.zone := by simpa using hz
      refine hK _ _ ⟨New.refl _, ?_⟩
      unfold stays
      exact (decide_eq_false (fun hh => by
        rcases hh.1 with h1 | h1 | h1
        · exact h1 hop
        · exact h1 he
        · exact h1 hz)).symm
    rintro s h22 ⟨n22, hs⟩ _
    have hs : s = stays x (act D x).2.e (act D x).1 w := hs
    have n2022 := n21.trans n22
    have b22 := b21.new n22
    have S22 := S20.new n2022
    have W22 : WRow (3, p) t20 h22 pa pcp ps := W20.fr (S := fun _ => True) (Fr.new0 n2022) tr0 trivial
    have N22 : WRow (3, p + 1) t20 h22 na nc ns := N20.fr (S := fun _ => True) (Fr.new0 n2022) tr0 trivial
    have x22 := x20.fr (S := fun _ => True) (Fr.new0 n2022) tr0
    have y22 := y20.fr (S := fun _ => True) (Fr.new0 n2022) tr0
    have z22 := z20.fr (S := fun _ => True) (Fr.new0 n2022) tr0
    have im22 := im20.new n2022
    refine br_of (fun hb => ?_) (fun hb => ?_)
    · refine ldAgg_blk (w.1, w.2.1, (a20, w.2.2.length, c20)) b22 ⟨rfl, rfl, rfl, trivial⟩ ?_
      refine WRow.push N22 (show (3 : Nat) ≠ 0 by decide) im22 (by omega) fun a23 c23 h23 t23 f23 N23 => ?_
      rw [wr64 (by omega) (by omega)]
      refine ⟨⟨k + 1, t23, ns ++ [(w.1, w.2.1, w.2.2)], rfl, hlt3, by rw [List.length_append]; rfl, ?_, S22.fr f23 (ne3 _) (ne31 _), W22.fr f23 (ne3 _) (by intro e; have := congrArg Prod.snd e; simp at this), N23, x22.fr f23 (ne3 _), y22.fr f23 (ne3 _), z22.fr f23 (ne3 _)⟩, (by first | omega | (dsimp only; omega) | (simp only []; omega))⟩
      rw [htk, List.filter_append, ← hns, List.filter_cons, if_pos (by rw [← hs]; exact hb)]; rfl
    · rw [wr64 (by omega) (by omega)]
      refine ⟨⟨k + 1, t20, ns, rfl, hlt3, rfl, ?_, S22, W22, N22, x22, y22, z22⟩, (by first | omega | (dsimp only; omega) | (simp only []; omega))⟩
      rw [htk, List.filter_append, ← hns, List.filter_cons, if_neg (by rw [← hs, hb]; decide)]; simp
  have hlt3 : ¬ (k : Int) < (ps.length : Int) := of_decide_eq_false hlt3
  have hke : k = ps.length := by omega
  rw [hke, List.take_length] at hns
  rw [← hns] at hkept
  -- what is sure
  refine ⟨fun (s : Int) h' => ∃ z : Nat, s = z ∧ z ≤ m ∧ New h20 h', fun (s : Int) _ => ((m : Int) - s).toNat, ⟨0, rfl, Nat.zero_le _, New.refl h20⟩, ?_⟩
  rintro s j4 h21 ⟨z, rfl, hz, n21⟩
  have S21 := S20.new n21
  refine br_of (fun hlt4 => ?_) (fun _ => ?_)
  rotate_left
  · rw [wr64 (by omega) (by omega)]
    have N21 : WRow (3, p + 1) t20 h21 na nc ns := N20.fr (S := fun _ => True) (Fr.new0 n21) tr0 trivial
    exact ⟨⟨i + 1, (act D x).1, t20, ns, p + 1, rfl, hlt, oE, by rw [act_zs]; exact hzl, by omega, fun e => hact_u (hx6 e), hkept, rfl, S21, N21⟩, (by first | omega | (dsimp only; omega) | (simp only []; omega))⟩
  have hlt4 : (z : Int) < (m : Int) := of_decide_eq_true hlt4
  have hlt4 : z < m := by omega
  have bx := x20.blk.new n21
  have byy := y20.blk.new n21
  have hxz : xs[z]? = some (D.sure (z : Int) : Int) := hxs z hlt4
  have hsp : (act D x).1.sure (z : Int) ≤ (act D x).1.point (z : Int) := (oE.at_ (z : Int)).sure
  have cy : ∀ {h' : Heap}, New h21 h' → cellH h' (Addr.add ⟨h7.size, 0, none⟩ (Int.toNat (z : Int) * 1)) = some (.int .i64 (D.sure (z : Int) : Int)) := fun n => by
    rw [add_mk, cellH_blk (byy.new n), Int.toNat_natCast, Nat.zero_add, Nat.mul_one, List.getElem?_toArray, List.getElem?_map, hxz]; rfl
  have next : ∀ h', New h21 h' → ((fun (s : Int) h' => ∃ z : Nat, s = z ∧ z ≤ m ∧ New h20 h') (IntKind.wrap .i64 ((z : Int) + 1)) h') ∧ ((m : Int) - IntKind.wrap .i64 ((z : Int) + 1)).toNat < ((m : Int) - z).toNat := fun h' n => by
    rw [wr64 (by omega) (by omega)]
    exact ⟨⟨z + 1, rfl, hlt4, n21.trans n⟩, by omega⟩
  refine ld_of (c := .int .i64) x.op (by rw [add_mk, cellH_blk bx]; rfl) (br_of (fun hop => ?_) fun hop => ?_)
  · have hop : x.op ≠ 2 := by simpa using hop
    have hss := hact_s hop (z : Int)
    refine ptr_of (ix_of hlt4 (ld_of (c := .int .i64) (D.sure (z : Int) : Int) (cy (New.refl _)) (call_of (ZnsP.sure_ok (z : Int) h21 S21.rp) ?_)))
    rintro v h22 ⟨rfl, n22⟩
    refine ⟨((act D x).1.sure (z : Int) : Int), rfl, cy n22, br_f (decide_eq_false (by omega)) (call_of (ZnsP.sure_ok (z : Int) h22 (S21.new n22).rp) ?_)⟩
    rintro v h23 ⟨rfl, n23⟩
    have m23 := n22.trans n23
    refine ⟨((act D x).1.sure (z : Int) : Int), rfl, cy m23, call_of (ZnsP.point_ok (z : Int) h23 (S21.new m23).rp) ?_⟩
    rintro v h24 ⟨rfl, n24⟩
    have m24 := m23.trans n24
    refine ⟨((act D x).1.point (z : Int) : Int), rfl, cy m24, br_f (decide_eq_false (by omega)) (ld_of (c := .int .i64) x.op (by rw [add_mk, cellH_blk (bx.new m24)]; rfl) (br_of (fun h6 => ?_) fun _ => next _ m24))⟩
    have h6 : x.op = 6 := by simpa using h6
    refine call_of (ZnsP.sure_ok (z : Int) h24 (S21.new m24).rp) ?_
    rintro v h25 ⟨rfl, n25⟩
    have m25 := m24.trans n25
    refine ⟨((act D x).1.sure (z : Int) : Int), rfl, cy m25, call_of (ZnsP.point_ok (z : Int) h25 (S21.new m25).rp) ?_⟩
    rintro v h26 ⟨rfl, n26⟩
    have m26 := m25.trans n26
    exact ⟨((act D x).1.point (z : Int) : Int), rfl, cy m26, br_f (by rw [hact_c h6 (z : Int)]; simp) (next _ m26)⟩
  · have hop : x.op = 2 := by simpa using hop
    refine call_of (ZnsP.sure_ok (z : Int) h21 S21.rp) ?_
    rintro v h22 ⟨rfl, n22⟩
    refine ⟨((act D x).1.sure (z : Int) : Int), rfl, call_of (ZnsP.point_ok (z : Int) h22 (S21.new n22).rp) ?_⟩
    rintro v h23 ⟨rfl, n23⟩
    have m23 := n22.trans n23
    exact ⟨((act D x).1.point (z : Int) : Int), rfl, br_f (decide_eq_false (by omega)) (ld_of (c := .int .i64) x.op (by rw [add_mk, cellH_blk (bx.new m23)]; rfl) (br_f (by rw [hop]; rfl) (next _ m23)))⟩
end Go.Proofs.YtgohecjnjadnpaaDoor.L7U
