/-
  Package victim: zones in their order, and which are chosen.
-/
import Derived.Test.YticppjmldlhbiaaVicW
namespace Go.Proofs.Yticppjmldlhbiaa.VicS
open Go.Pl Go.Proofs.Yticppjmldlhbiaa.W Go.Sort Go.Proofs.Yticppjmldlhbiaa.Vic Go.Proofs.Yticppjmldlhbiaa.VicW
open Go.Proofs.Yticppjmldlhbiaa.So (hm' encL El TE lt CmpOk Rw swo pdq_ok)
abbrev TI : TypeId := 3
theorem ap3 : apB Try.prog 60 TE 3 24 = true := by kernel_rfl
theorem apI : apB Try.prog 36 TI 1 8 = true := by kernel_rfl
/- THE COMPARISON, AS IT IS HANDED ON. -/
theorem cmp_ok {pol p : Int} [Inhabited (El p)] {h0 : Heap} {g qp qg qn : Nat} {T1 T2 T3 : TypeId} (hp : p ≤ 16) (Bp : Blk h0 qp #[.int .i64 pol] T1) (Bg : Blk h0 qg #[.func (.func 66) #[] #[.pointer (some ⟨qn, 0, none⟩)]] T2) (Bn : Blk h0 qn #[.int .i64 p] T3) (h1 : qp ≠ g) (h2 : qg ≠ g) (h3 : qn ≠ g) :
    CmpOk pol p h0 g (.func (.func 69) #[] #[.pointer (some ⟨qp, 0, none⟩), .pointer (some ⟨qg, 0, none⟩)]) := by
  refine ⟨_, _, _, rfl, fun h x y u => ?_⟩
  obtain ⟨a, ha⟩ := x
  obtain ⟨b, hb⟩ := y
  refine fun_ok hm' Try.func69 (by kernel_rfl) (F69_eq a.1 a.2.1 a.2.2 b.1 b.2.1 b.2.2 ⟨qp, 0, none⟩ ⟨qg, 0, none⟩ _ h) ?_
  unfold F69
  have Bp := Bp.upd u h1
  have Bg := Bg.upd u h2
  have Bn := Bn.upd u h3
  refine new_of fun h4 b4 n4 s4 => new_of fun h5 b5 n5 s5 => ?_
  have n45 := n4.trans n5
  have b4 := b4.new n5
  have Bp := Bp.new n45
  have Bg := Bg.new n45
  have Bn := Bn.new n45
  have c4 : ∀ {h' : Heap}, New h5 h' → ∀ (q : Nat) (v : Value), (encL a)[q]? = some v → cellH h' (Addr.add ⟨h.size, 0, none⟩ q) = some v := fun n q v hv => by rw [add_mk, cellH_blk (b4.new n), Nat.zero_add]; simpa [encL] using hv
  have c5 : ∀ {h' : Heap}, New h5 h' → ∀ (q : Nat) (v : Value), (encL b)[q]? = some v → cellH h' (Addr.add ⟨h4.size, 0, none⟩ q) = some v := fun n q v hv => by rw [add_mk, cellH_blk (b5.new n), Nat.zero_add]; simpa [encL] using hv
  refine ld_of (c := .int .i64) a.2.1 (c4 (New.refl _) 1 _ rfl) (ld_of (c := .int .i64) b.2.1 (c5 (New.refl _) 1 _ rfl) (call_of (cmpI_ok a.2.1 b.2.1 h5) ?_))
  rintro v h' ⟨rfl, hh⟩; subst h'
  refine ⟨cmpI a.2.1 b.2.1, rfl, cut_q (ts := [.sc (.int .i64)]) (fun (s : Int) h' => s = (if pol ≠ 0 then cmpI (goodZ p b a) (goodZ p a b) else cmpI a.2.1 b.2.1) ∧ New h5 h') ?_ ?_⟩
  rotate_left
  · intro K hK
    refine ld_of (c := .int .i64) pol (by rw [cellH_blk Bp]; rfl) (br_of (fun hpol => ?_) (fun hpol => hK _ _ ⟨?_, New.refl _⟩))
    · have hpol : pol ≠ 0 := by simpa using hpol
      have cg : ∀ {h' : Heap}, New h5 h' → cellH h' ⟨qg, 0, none⟩ = some (.func (.func 66) #[] #[.pointer (some ⟨qn, 0, none⟩)]) := fun n => by rw [cellH_blk (Bg.new n)]; rfl
      refine ld_of (c := .any) _ (cg (New.refl _)) (ldAgg_blk (b.1, b.2.1, b.2.2) b5 ⟨rfl, rfl, rfl, trivial⟩ (ldAgg_blk (a.1, a.2.1, a.2.2) b4 ⟨rfl, rfl, rfl, trivial⟩ (ld_of (c := .any) _ (cg (New.refl _)) (ldAgg_blk (a.1, a.2.1, a.2.2) b4 ⟨rfl, rfl, rfl, trivial⟩ (ldAgg_blk (b.1, b.2.1, b.2.2) b5 ⟨rfl, rfl, rfl, trivial⟩ ?_)))))
      refine callW_of (first := #[]) (cap := #[.pointer (some ⟨qn, 0, none⟩)]) (good_ok b a qn h5 Bn hb ha hp hb.a1) ?_
      rintro v h6 ⟨rfl, n6⟩
      refine ⟨goodZ p b a, rfl, c5 n6 0 _ rfl, c5 n6 1 _ rfl, c5 n6 2 _ rfl, c4 n6 0 _ rfl, c4 n6 1 _ rfl, c4 n6 2 _ rfl, cg n6, ?_⟩
      refine callW_of (first := #[]) (cap := #[.pointer (some ⟨qn, 0, none⟩)]) (good_ok a b qn h6 (Bn.new n6) ha hb hp ha.a1) ?_
      rintro v h7 ⟨rfl, n7⟩
      refine ⟨goodZ p a b, rfl, call_of (cmpU_ok (goodZ p b a) (goodZ p a b) h7) ?_⟩
      rintro v h' ⟨rfl, hh⟩; subst h'
      exact ⟨_, rfl, hK _ _ ⟨by rw [if_pos hpol], n6.trans n7⟩⟩
    · have hpol : pol = 0 := by simpa using hpol
      rw [if_neg (fun hh => hh hpol)]
  rintro s h6 ⟨hs, n6⟩ _
  have hs : s = (if pol ≠ 0 then cmpI (goodZ p b a) (goodZ p a b) else cmpI a.2.1 b.2.1) := hs
  refine ld_of (c := .int .i64) a.1 (c4 n6 0 _ rfl) (ld_of (c := .int .i64) b.1 (c5 n6 0 _ rfl) (call_of (cmpI_ok a.1 b.1 h6) ?_))
  rintro v h' ⟨rfl, hh⟩; subst h'
  refine ⟨cmpI a.1 b.1, rfl, new_of fun h7 b7 n7 s7 => call_of (or_ok s (cmpI a.1 b.1) _ h7 b7) ?_⟩
  rintro v h' ⟨rfl, hh⟩; subst h'
  refine ⟨_, rfl, ⟨_, rfl, ?_⟩, n45.trans (n6.trans n7)⟩
  rw [hs]; exact cmp_lt
/- THE ZONES, GONE THROUGH. -/
theorem yield_of {P : Program} {T : Ty} {l : Nat} {args : List Value} {F : T.T → Heap → Prop} {h : Heap} {R : Bool → Heap → Prop} (hY : YieldH P l args h R) (hR : ∀ b h', R b h' → ∃ s : T.T, Value.bool b = T.val s ∧ F s h') : callW P T (.func (.yield l) #[] #[]) args F h := YieldH.mono hY hR
theorem vals1_ok (l q : Nat) (a : Option Addr) (c : Nat) (zs : List Z) (h : Heap) (J : List Z → Heap → Prop) (h0 : J [] h) (hl : zs.length ≤ 1000000)
    (hJ : ∀ (pre : List Z) (h' : Heap), J pre h' → cellH h' ⟨q, 0, none⟩ = some (.slice a zs.length c) ∧ Zr h' a zs) (hN : ∀ (pre : List Z) (h' h'' : Heap), J pre h' → New h' h'' → J pre h'')
    (hY : ∀ (pre : List Z) (x : Z) (post : List Z) (h' : Heap), zs = pre ++ x :: post → J pre h' → YieldH Try.prog l [.agg #[.int .i64 x.1, .int .i64 x.2.1, .int .u32 x.2.2]] h' fun t h'' => t = true ∧ J (pre ++ [x]) h'') :
    CallsH Try.prog 78 [.func (.yield l) #[] #[], .pointer (some ⟨q, 0, none⟩)] h fun _ h' => J zs h' := by
  refine fun_ok hm' Try.func78 (by kernel_rfl) (F78_eq _ _ _ h) ?_
  unfold F78
  refine ld_of (c := .slice) (a, zs.length, c) (hJ _ _ h0).1 ?_
  refine ⟨fun (s : Int) h' => ∃ i : Nat, s = i ∧ i ≤ zs.length ∧ J (zs.take i) h', fun (s : Int) _ => ((zs.length : Int) - s).toNat, ⟨0, rfl, Nat.zero_le _, h0⟩, ?_⟩
  rintro s j h1 ⟨i, rfl, hi, j1⟩
  refine br_of (fun hlt => ?_) (fun hlt => ?_)
  · have hlt : (i : Int) < (zs.length : Int) := of_decide_eq_true hlt
    have hiL : i < zs.length := by omega
    refine (hJ _ _ j1).2.ld hiL hiL (new_stL (by rw [zeroZ]; rfl) fun h2 b2 n2 s2 => ldAgg_blk (zs[i].1, zs[i].2.1, zs[i].2.2) b2 ⟨rfl, rfl, rfl, trivial⟩ ?_)
    have j2 := hN _ _ _ j1 n2
    have hsplit : zs = zs.take i ++ zs[i] :: zs.drop (i + 1) := by rw [← List.drop_eq_getElem_cons hiL, List.take_append_drop]
    refine yield_of (hY _ _ _ h2 hsplit j2) ?_
    rintro t h3 ⟨rfl, j3⟩
    have j3 : J (zs.take i ++ [zs[i]]) h3 := j3
    rw [List.take_append_getElem hiL] at j3
    exact ⟨true, rfl, br_f rfl ⟨⟨i + 1, (by first | (rw [wr64 (by omega) (by omega)]; omega) | (simp only [IntKind.wrap_i64]; omega)), hiL, j3⟩, (by dsimp only; first | (rw [wr64 (by omega) (by omega)]; omega) | (rw [wr64 (by omega) (by omega), wr64 (by omega) (by omega)]; omega) | (simp only [IntKind.wrap_i64]; omega))⟩⟩
  · have hlt : ¬ (i : Int) < (zs.length : Int) := of_decide_eq_false hlt
    have : i = zs.length := by omega
    subst this
    rw [List.take_length] at j1
    exact j1
theorem append_ok (h : Heap) (q : Nat) (a : Option Addr) (c : Nat) (zs : List Z) (hl : zs.length ≤ 1000) {T : TypeId} (B0 : Blk h q #[.slice a zs.length c] T) (r : Zr h a zs) :
    CallsH Try.prog 81 [.slice none 0 0, .func (.func 78) #[] #[.pointer (some ⟨q, 0, none⟩)]] h
      fun v h' => ∃ a' c', v = .slice a' zs.length c' ∧ OwnH h' h.size TE 3 a' zs.length c' (zv zs) ∧ New h h' := by
  refine fun_ok hm' Try.func81 (by kernel_rfl) (F81_eq _ _ _ _ _ h) ?_
  unfold F81
  refine new_of fun h1 b1 n1 s1 => ?_
  rintro l o ho rfl hyield
  have hqB : q < h.size := B0.lt
  generalize hB : h.size = B at *
  have nb : New h1 ((h1.push (.deferred (some []))).push o.rdy) := (New.push _ _).trans (New.push _ _)
  have hrdy : ((h1.push (.deferred (some []))).push o.rdy)[h1.size + 1]? = some o.rdy := by rw [Array.getElem?_push, if_pos (by simp)]
  have hsz : ((h1.push (.deferred (some []))).push o.rdy).size = h1.size + 2 := by simp
  have rb := (r.new n1).new nb
  have Bb := (B0.new n1).new nb
  have b1b := b1.new nb
  generalize (h1.push (.deferred (some []))).push o.rdy = hb at *
  let J : List Z → Heap → Prop := fun pre h' => Upd B hb h' ∧ ∃ a c, Blk h' B #[.slice a pre.length c] 60 ∧ OwnH h' hb.size TE 3 a pre.length c (zv pre)
  have hne : ∀ {i : Nat} {z : Z}, zs[i]? = some z → ∀ b' o', a = some ⟨b', o', none⟩ → b' < B := fun {i z} hi b' o' e => by
    obtain ⟨b, o2, e2, hbb, _⟩ := r i z hi
    rw [e] at e2; injection e2 with e2; injection e2 with e2; omega
  refine CallsH.mono (vals1_ok (h1.size + 1) q a c zs hb J ⟨Upd.refl _ _, none, 0, b1b, OwnH.nil _ _ _ _⟩ (by omega) ?_ ?_ ?_) ?_
  · rintro pre h' ⟨hu, _⟩
    refine ⟨by rw [cellH_blk (Bb.upd hu (by omega))]; rfl, fun i z hi => ?_⟩
    obtain ⟨b, o2, e, hbb, hc⟩ := rb i z hi
    have hbB := hne hi b o2 e
    exact ⟨b, o2, e, Nat.lt_of_lt_of_le hbb hu.size, fun j hj => by rw [cellH_same (hu.same b hbb (by omega))]; exact hc j hj⟩
  · rintro pre h' h'' ⟨hu, a2, c2, hbl, how⟩ n
    exact ⟨hu.trans n.upd, a2, c2, hbl.new n, how.grow n⟩
  · rintro pre x post h' hl2 ⟨hu, a2, c2, hbl, how⟩
    refine hyield (x.1, x.2.1, x.2.2) h' _ ((hu.same _ (by omega) (by omega)).trans hrdy) ?_
    have hus := hu.size
    refine new_stL (by rw [zeroZ]; rfl) fun h2 b2 n2 s2 => ?_
    have b2 : Blk h2 h'.size (encL x).toArray TE := b2
    refine ⟨(n2.same _ (by omega)).trans ((hu.same _ (by omega) (by omega)).trans hrdy), fun h3 o3 nc3 => ?_⟩
    have hs3 := o3.size
    have hbl3 : Blk h3 B _ 60 := (hbl.new n2).only o3 (by omega)
    have b3 : Blk h3 h'.size (encL x).toArray TE := b2.only o3 (by omega)
    have how3 : OwnH h3 hb.size TE 3 a2 pre.length c2 (zv pre) := (how.grow n2).keep fun g cur hg _ _ => o3.same g (by omega)
    refine ld_of (c := .slice) (a2, pre.length, c2) (by rw [cellH_blk hbl3]; rfl) (ldAgg_blk (x.1, x.2.1, x.2.2) b3 ⟨rfl, rfl, rfl, trivial⟩ (new_of fun h4 b4 n4 s4 => ?_))
    have how4 := how3.grow n4
    have hlen : pre.length + 1 ≤ 1000 := by rw [hl2] at hl; simp at hl; omega
    refine ap_own ap3 (by omega) how4 (encL x) (m := 1) rfl ?_ (fun u hu => by simp [encL] at hu; rcases hu with rfl | rfl | rfl <;> rfl) (by simp only [maxLen]; omega) (by omega) (by omega) ?_
    · intro j u hu'
      rw [add_mk, cellH_blk b4, Nat.zero_add]; simpa [encL] using hu'
    intro a' c' h5 ho5 hu5
    have hgB : blkOf a2 ≠ some B := by
      intro e
      have := (how4.blk_ge B e).1; omega
    have hbl5 : Blk h5 B _ 60 := (hu5.same B (hbl3.new n4).lt (fun e => hgB e.symm)).trans (hbl3.new n4)
    refine st_blk hbl5 (by simp) fun h6 hb6 o6 => ?_
    intro h7 o7 hrdy7
    refine ⟨rfl, ⟨?_, fun k hk hkB => ?_⟩, a', c', ?_, ?_⟩
    · have := hu5.size; have := n4.size; have := o6.size; have := o7.size; have := n2.size; omega
    · by_cases hkl : k = h1.size + 1
      · subst hkl; rw [hrdy7, hrdy]
      · have := n2.size; have := n4.size
        rw [o7.same k hkl, o6.same k hkB, hu5.same k (by omega) (fun e => by have := (how4.blk_ge k e.symm).1; omega), n4.same k (by omega), o3.same k hkl, n2.same k (by omega), hu.same k hk hkB]
    · have := hb6.only o7 (show B ≠ h1.size + 1 by omega)
      simpa using this
    · have e1 : (pre ++ [x]).length = pre.length + 1 := by simp
      have e2 : zv (pre ++ [x]) = zv pre ++ encL x := by rw [zv_app]; simp [zv]
      rw [e1, e2]
      refine (ho5.keep fun g cur hg hgb _ => o6.same g (fun e => ?_)).keep fun g cur hg _ _ => o7.same g (by omega)
      omega
  · rintro v h3 ⟨hu, a2, c2, hbl, how⟩
    refine .inl ⟨(hu.same _ (by omega) (by omega)).trans hrdy, fun h4 o4 => ?_⟩
    have hbl4 : Blk h4 B _ 60 := hbl.only o4 (by omega)
    have how4 : OwnH h4 hb.size TE 3 a2 zs.length c2 (zv zs) := how.keep fun g cur hg _ _ => o4.same g (by omega)
    refine ld_of (c := .slice) (a2, zs.length, c2) (by rw [cellH_blk hbl4]; rfl) ?_
    intro h5 t5
    refine ⟨a2, c2, rfl, ?_, ?_⟩
    · obtain ⟨e1, e2⟩ := how4
      refine ⟨e1, ?_⟩
      rcases e2 with e2 | ⟨g, cap, cur, e2, e3, e4, e5⟩
      · exact .inl e2
      · refine .inr ⟨g, cap, cur, e2, by omega, ?_, e5⟩
        rcases t5.same g with t | ⟨_, t, _⟩
        · exact t.trans e4
        · exact absurd (t.symm.trans e4) (by simp)
    · refine ⟨by have := t5.size; have := o4.size; have := hu.size; omega, fun k hk => ?_⟩
      rcases t5.same k with t | ⟨t, _⟩
      · rw [t, o4.same k (by omega), hu.same k (by omega) (by omega), nb.same k (by omega), n1.same k (by omega)]
      · omega
end Go.Proofs.Yticppjmldlhbiaa.VicS
