/-
  The reference of victim: ahead, Ids, Sorted, Choose.
-/
import Derived.Test.YticppjmldlhbiaaWR12
import Derived.Test.YticppjmldlhbiaaVicO
namespace Go.Proofs.Yticppjmldlhbiaa.VicR
open Go.Pl Go.Proofs.Yticppjmldlhbiaa.W Go.Proofs.Yticppjmldlhbiaa.Vic Go.Proofs.Yticppjmldlhbiaa.VicW Go.Proofs.Yticppjmldlhbiaa.VicS Go.Proofs.Yticppjmldlhbiaa.VicT Go.Proofs.Yticppjmldlhbiaa.VicL Go.Proofs.Yticppjmldlhbiaa.VicG Go.Proofs.Yticppjmldlhbiaa.VicO
open Go.Proofs.Yticppjmldlhbiaa.So (hm' encL TE)
/- PLAIN. -/
theorem insZ_at {pol p : Int} {x : Z} : ∀ {out : List Z} {k : Nat}, k ≤ out.length → (∀ y ∈ out.take k, aheadB pol p y x = true) → (∀ h : k < out.length, aheadB pol p out[k] x = false) → insZ pol p x out = out.take k ++ [x] ++ out.drop k
  | [], k, _, _, _ => by simp [insZ]
  | y :: ys, 0, _, _, h => by
    have := h (by simp)
    unfold insZ
    rw [if_neg (by simpa using this)]; simp
  | y :: ys, k + 1, hk, hp, h => by
    unfold insZ
    rw [if_pos (hp y (by simp))]
    have ih := insZ_at (pol := pol) (p := p) (x := x) (out := ys) (k := k) (by simpa using hk) (fun z hz => hp z (by simp [hz])) (fun hh => h (Nat.succ_lt_succ hh))
    rw [ih]; simp
theorem ahead_ok {pol p : Int} (z y : Z) (hz : okZ p z) (hy : okZ p y) (hp : p ≤ 16) (h : Heap) :
    CallsH Try.prog 58 [.int .i64 pol, .int .i64 p, .agg #[.int .i64 z.1, .int .i64 z.2.1, .int .u32 z.2.2], .agg #[.int .i64 y.1, .int .i64 y.2.1, .int .u32 y.2.2]] h fun v h' => v = .bool (aheadB pol p z y) ∧ New h h' := by
  refine fun_ok hm' Try.func58 (by kernel_rfl) (F58_eq _ _ _ _ _ _ _ _ _ h) ?_
  unfold F58
  refine new_of fun h1 b1 n1 s1 => new_of fun h2 b2 n2 s2 => ?_
  have b1 : Blk h2 h.size (encL z).toArray TR := b1.new n2
  have b2 : Blk h2 h1.size (encL y).toArray TR := b2
  have n02 := n1.trans n2
  refine cut_q (ts := []) (fun _ h' => h' = h2 ∧ (pol = 0 → z.2.1 = y.2.1)) ?_ ?_
  rotate_left
  · intro K hK
    refine cut_q (ts := [.sc .bool]) (fun (s : Bool) h' => h' = h2 ∧ s = (pol == 0 && z.2.1 != y.2.1)) ?_ ?_
    rotate_left
    · intro K2 hK2
      refine br_of (fun h0 => ?_) fun h0 => hK2 _ _ ⟨rfl, ?_⟩
      · refine ld_of (c := .int .i64) z.2.1 (by rw [add_mk, cellH_blk b1]; rfl) (ld_of (c := .int .i64) y.2.1 (by rw [add_mk, cellH_blk b2]; rfl) (hK2 _ _ ⟨rfl, ?_⟩))
        rw [h0]; rfl
      · rw [h0]; rfl
    rintro s h' ⟨hh, hs⟩ _; subst h'
    have hs : s = (pol == 0 && z.2.1 != y.2.1) := hs
    subst hs
    refine br_of (fun h0 => ?_) fun h0 => hK () _ ⟨rfl, fun hpol => ?_⟩
    · refine ld_of (c := .int .i64) z.2.1 (by rw [add_mk, cellH_blk b1]; rfl) (ld_of (c := .int .i64) y.2.1 (by rw [add_mk, cellH_blk b2]; rfl) ⟨?_, n02⟩)
      have ⟨e1, e2⟩ : pol = 0 ∧ z.2.1 ≠ y.2.1 := by simpa using h0
      unfold aheadB
      rw [if_pos e1, if_pos e2]
    · subst hpol; simpa using h0
  rintro _ h' ⟨hh, he⟩ _; subst h'
  refine ld_of (c := .int .u32) z.2.2 (by rw [add_mk, cellH_blk b1]; rfl) (ld_of (c := .int .i64) z.2.1 (by rw [add_mk, cellH_blk b1]; rfl) (ld_of (c := .int .i64) y.2.1 (by rw [add_mk, cellH_blk b2]; rfl) (ld_of (c := .int .u32) y.2.2 (by rw [add_mk, cellH_blk b2]; rfl) (ld_of (c := .int .i64) y.2.1 (by rw [add_mk, cellH_blk b2]; rfl) (ld_of (c := .int .i64) z.2.1 (by rw [add_mk, cellH_blk b1]; rfl) ?_)))))
  dsimp only
  rw [(good_val hz hy hp hz.a1).2.2, (good_val hy hz hp hy.a1).2.2]
  refine cut_q (ts := []) (fun _ h' => h' = h2 ∧ (pol ≠ 0 → goodZ p z y = goodZ p y z)) ?_ ?_
  rotate_left
  · intro K hK
    refine br_of (fun h0 => ?_) fun h0 => hK () _ ⟨rfl, fun hh => ?_⟩
    · have h0 : pol ≠ 0 := by simpa using h0
      refine br_of (fun h1 => ⟨?_, n02⟩) fun h1 => hK () _ ⟨rfl, fun _ => by simpa using h1⟩
      have h1 : goodZ p z y ≠ goodZ p y z := by simpa using h1
      unfold aheadB
      rw [if_neg h0, if_pos h1]
    · exact (hh (by simpa using h0)).elim
  rintro _ h' ⟨hh, hg⟩ _; subst h'
  refine ld_of (c := .int .i64) z.1 (by rw [add_mk, cellH_blk b1]; rfl) (ld_of (c := .int .i64) y.1 (by rw [add_mk, cellH_blk b2]; rfl) ⟨?_, n02⟩)
  unfold aheadB
  by_cases h0 : pol = 0
  · rw [if_pos h0, if_neg (fun hne => hne (he h0))]
  · rw [if_neg h0, if_neg (fun hne => hne (hg h0))]
theorem ids2_ok (h : Heap) (a : Option Addr) (c n : Nat) (zs : List Z) (hn : n = zs.length) (hl : zs.length ≤ 1000) (r : Zr h a zs) :
    CallsH Try.prog 38 [.slice a n c] h fun v h' => ∃ a' c', v = .slice a' (zs.map Prod.fst).length c' ∧ Ar .i64 h' a' (zs.map Prod.fst) ∧ New h h' := by
  subst hn
  refine fun_ok hm' Try.func38 (by kernel_rfl) (F38_eq _ _ _ _ h) ?_
  unfold F38
  refine new_of fun h0 b0 n0 s0 => ?_
  have hr0 : ∀ b : Nat, blkOf (some (⟨h.size, 0, none⟩ : Addr)) = some b → h.size ≤ b := fun b e => by injection e with e; change h.size = b at e; omega
  refine ⟨fun (s : (Option Addr × Nat × Nat) × Int) h' => ∃ i : Nat, s.2 = i ∧ i ≤ zs.length ∧ s.1.2.1 = ((zs.take i).map Prod.fst).length ∧ Grow h0 (blkOf (some (⟨h.size, 0, none⟩ : Addr))) h' TI 1 s.1.1 s.1.2.1 s.1.2.2 (((zs.take i).map Prod.fst).map (Value.int .i64)), fun (s : (Option Addr × Nat × Nat) × Int) _ => ((zs.length : Int) - s.2).toNat, ⟨0, rfl, Nat.zero_le _, rfl, Grow.start (RowS.nil' h0 TI 1 (some ⟨h.size, 0, none⟩))⟩, ?_⟩
  rintro ⟨⟨oa, on, oc⟩, s⟩ j h1 ⟨i, hs, hi, hon, g1⟩
  simp only [] at hs hon g1
  subst hs; subst hon
  have n01 : New h h1 := g1.upd.grow n0 hr0
  refine br_of (fun hlt => ?_) (fun hlt => ?_)
  · have hlt : (i : Int) < (zs.length : Int) := of_decide_eq_true hlt
    have hiL : i < zs.length := by omega
    have htk : zs.take (i + 1) = zs.take i ++ [zs[i]] := (List.take_append_getElem hiL).symm
    refine (r.new n01).ld1 (c := .int .i64) (k := 0) (x := zs[i].1) hiL hiL rfl ?_
    refine Grow.push apI (v := .int .i64 zs[i].1) g1 rfl (by simp; omega) (by omega) fun a3 c3 h3 g3 => ?_
    rw [wr64 (by omega) (by omega)]
    have e3 : (zs.take (i + 1)).map Prod.fst = (zs.take i).map Prod.fst ++ [zs[i].1] := by rw [htk, List.map_append]; rfl
    refine ⟨⟨i + 1, rfl, hiL, by rw [e3, List.length_append]; rfl, ?_⟩, (by first | omega | (dsimp only; omega) | (simp only []; omega))⟩
    rw [e3, List.map_append]; exact g3
  · have hlt : ¬ (i : Int) < (zs.length : Int) := of_decide_eq_false hlt
    have : i = zs.length := by omega
    subst this
    rw [List.take_length] at g1 ⊢
    exact ⟨oa, oc, rfl, (g1.got n0 hr0).ar, n01⟩
/- AN INSERTION: three slices in one, in each of the orders that the language leaves open. -/
theorem Zr.ldp {h : Heap} {a : Option Addr} {zs : List Z} (r : Zr h a zs) {i m : Nat} (hi : i < zs.length) (hm : i < m) {F : Addr → Int × Int × Int → Prop} (hF : ∀ b o, a = some ⟨b, o, none⟩ → F ⟨b, o, none⟩ (zs[i].1, zs[i].2.1, zs[i].2.2)) :
    ptrW a (fun p => idxW (i : Int) m true (ldAggW [.int .i64, .int .i64, .int .u32] (Addr.add p (Int.toNat (i : Int) * 3)) (F p) h)) := by
  obtain ⟨b, o, rfl, hb, hc⟩ := r i _ (List.getElem?_eq_getElem hi)
  have key := agg_at (cs := [.int .i64, .int .i64, .int .u32]) (k := 3) (F := fun s => s = ((zs[i].1, zs[i].2.1, zs[i].2.2) : Int × Int × Int)) ((zs[i].1, zs[i].2.1, zs[i].2.2) : Int × Int × Int) (es := encL zs[i]) hc rfl rfl hm rfl
  obtain ⟨h1, s, h2, h3⟩ := key
  subst h3
  exact ⟨h1, _, h2, hF b o rfl⟩
theorem zr1 {h : Heap} {q : Nat} {T : TypeId} {z : Z} (b : Blk h q #[.int .i64 z.1, .int .i64 z.2.1, .int .u32 z.2.2] T) : Zr h (some ⟨q, 0, none⟩) [z] := fun i y hi => by
  have h0 : i = 0 := by have := (List.getElem?_eq_some_iff.1 hi).1; simp at this; omega
  subst h0
  have : z = y := by simpa using hi
  subst this
  exact ⟨_, _, rfl, b.lt, fun j hj => by rw [cellH_blk b, Nat.zero_mul, Nat.zero_add, Nat.zero_add]; simp [encL]⟩
theorem Zr.keep {h h' : Heap} {row : Option Nat} {q : Nat} {zs : List Z} (r : Zr h (some ⟨q, 0, none⟩) zs) (u : UpdO row h h') (hb : row ≠ some q) : Zr h' (some ⟨q, 0, none⟩) zs := fun i z hi => by
  obtain ⟨b, o, e, hl, hc⟩ := r i z hi
  have hl' := hl
  injection e with e; injection e with e1 e2; subst e1; subst e2
  refine ⟨q, 0, rfl, Nat.lt_of_lt_of_le hl u.size, fun j hj => ?_⟩
  rw [← hc j hj]
  exact cellH_same (u.same q hl hb.symm)
def tailF (oa : Option Addr) (on oc : Nat) (la : Option Addr) (ll : Nat) (si sk : Int) (K : (Option Addr × Nat × Nat) × Int → Heap → Prop) (h0 : Heap) : Prop :=
(slW oa oc 3 (0 : Int) sk (((oc : Nat) : Int)) (fun b15 n16 c17 =>
  ptrW la (fun a18 =>
  idxW si ll true (ldAggW [.int .i64, .int .i64, .int .u32] (Addr.add a18 (Int.toNat si * 3)) (fun (x19 : Int × Int × Int) =>
  slW oa oc 3 sk (((on : Nat) : Int)) (((oc : Nat) : Int)) (fun b20 n21 c22 =>
  (newW (.cells #[] 101) (fun a23 h24 =>
  (apW Try.prog #[63, 63] #[.slice (some a23) 0 0, .slice b15 n16 c17] (fun b25 n26 c27 h28 =>
  (cellH h28 (Addr.add (Addr.add a18 (Int.toNat si * 3)) 0) = some (.int .i64 x19.1) ∧ (cellH h28 (Addr.add (Addr.add a18 (Int.toNat si * 3)) 1) = some (.int .i64 x19.2.1) ∧ (cellH h28 (Addr.add (Addr.add a18 (Int.toNat si * 3)) 2) = some (.int .u32 x19.2.2) ∧ newW (.cells #[.int .i64 x19.1, .int .i64 x19.2.1, .int .u32 x19.2.2] 101) (fun a29 h30 =>
  apW Try.prog #[63, 63] #[.slice b25 n26 c27, .slice (some a29) 1 1] (fun b31 n32 c33 h34 =>
  (cellH h34 (Addr.add (Addr.add a18 (Int.toNat si * 3)) 0) = some (.int .i64 x19.1) ∧ (cellH h34 (Addr.add (Addr.add a18 (Int.toNat si * 3)) 1) = some (.int .i64 x19.2.1) ∧ (cellH h34 (Addr.add (Addr.add a18 (Int.toNat si * 3)) 2) = some (.int .u32 x19.2.2) ∧ apW Try.prog #[63, 63] #[.slice b31 n32 c33, .slice b20 n21 c22] (fun b35 n36 c37 h38 =>
  (cellH h38 (Addr.add (Addr.add a18 (Int.toNat si * 3)) 0) = some (.int .i64 x19.1) ∧ (cellH h38 (Addr.add (Addr.add a18 (Int.toNat si * 3)) 1) = some (.int .i64 x19.2.1) ∧ (cellH h38 (Addr.add (Addr.add a18 (Int.toNat si * 3)) 2) = some (.int .u32 x19.2.2) ∧ K ((b35, n36, c37), (IntKind.wrap .i64 (si + (1 : Int)))) h38)))) h34)))) h30) h28)))) h24) ∧
  (newW (.cells #[.int .i64 x19.1, .int .i64 x19.2.1, .int .u32 x19.2.2] 101) (fun a39 h40 =>
  apW Try.prog #[63, 63] #[.slice (some a23) 0 0, .slice b15 n16 c17] (fun b41 n42 c43 h44 =>
  (cellH h44 (Addr.add (Addr.add a18 (Int.toNat si * 3)) 0) = some (.int .i64 x19.1) ∧ (cellH h44 (Addr.add (Addr.add a18 (Int.toNat si * 3)) 1) = some (.int .i64 x19.2.1) ∧ (cellH h44 (Addr.add (Addr.add a18 (Int.toNat si * 3)) 2) = some (.int .u32 x19.2.2) ∧ apW Try.prog #[63, 63] #[.slice b41 n42 c43, .slice (some a39) 1 1] (fun b45 n46 c47 h48 =>
  (cellH h48 (Addr.add (Addr.add a18 (Int.toNat si * 3)) 0) = some (.int .i64 x19.1) ∧ (cellH h48 (Addr.add (Addr.add a18 (Int.toNat si * 3)) 1) = some (.int .i64 x19.2.1) ∧ (cellH h48 (Addr.add (Addr.add a18 (Int.toNat si * 3)) 2) = some (.int .u32 x19.2.2) ∧ apW Try.prog #[63, 63] #[.slice b45 n46 c47, .slice b20 n21 c22] (fun b49 n50 c51 h52 =>
  (cellH h52 (Addr.add (Addr.add a18 (Int.toNat si * 3)) 0) = some (.int .i64 x19.1) ∧ (cellH h52 (Addr.add (Addr.add a18 (Int.toNat si * 3)) 1) = some (.int .i64 x19.2.1) ∧ (cellH h52 (Addr.add (Addr.add a18 (Int.toNat si * 3)) 2) = some (.int .u32 x19.2.2) ∧ K ((b49, n50, c51), (IntKind.wrap .i64 (si + (1 : Int)))) h52)))) h48)))) h44)))) h40) h24)) h0) ∧
  (newW (.cells #[.int .i64 x19.1, .int .i64 x19.2.1, .int .u32 x19.2.2] 101) (fun a53 h54 =>
  newW (.cells #[] 101) (fun a55 h56 =>
  apW Try.prog #[63, 63] #[.slice (some a55) 0 0, .slice b15 n16 c17] (fun b57 n58 c59 h60 =>
  (cellH h60 (Addr.add (Addr.add a18 (Int.toNat si * 3)) 0) = some (.int .i64 x19.1) ∧ (cellH h60 (Addr.add (Addr.add a18 (Int.toNat si * 3)) 1) = some (.int .i64 x19.2.1) ∧ (cellH h60 (Addr.add (Addr.add a18 (Int.toNat si * 3)) 2) = some (.int .u32 x19.2.2) ∧ apW Try.prog #[63, 63] #[.slice b57 n58 c59, .slice (some a53) 1 1] (fun b61 n62 c63 h64 =>
  (cellH h64 (Addr.add (Addr.add a18 (Int.toNat si * 3)) 0) = some (.int .i64 x19.1) ∧ (cellH h64 (Addr.add (Addr.add a18 (Int.toNat si * 3)) 1) = some (.int .i64 x19.2.1) ∧ (cellH h64 (Addr.add (Addr.add a18 (Int.toNat si * 3)) 2) = some (.int .u32 x19.2.2) ∧ apW Try.prog #[63, 63] #[.slice b61 n62 c63, .slice b20 n21 c22] (fun b65 n66 c67 h68 =>
  (cellH h68 (Addr.add (Addr.add a18 (Int.toNat si * 3)) 0) = some (.int .i64 x19.1) ∧ (cellH h68 (Addr.add (Addr.add a18 (Int.toNat si * 3)) 1) = some (.int .i64 x19.2.1) ∧ (cellH h68 (Addr.add (Addr.add a18 (Int.toNat si * 3)) 2) = some (.int .u32 x19.2.2) ∧ K ((b65, n66, c67), (IntKind.wrap .i64 (si + (1 : Int)))) h68)))) h64)))) h60)))) h56) h54) h0))) h0))))
set_option maxHeartbeats 400000 in
theorem tail_ok {h0 : Heap} {oa la : Option Addr} {on oc : Nat} {out zs : List Z} {i k : Nat} {K : (Option Addr × Nat × Nat) × Int → Heap → Prop} (hon : on = out.length) (hl : out.length ≤ 60) (ro : RowS h0 TR 3 oa on oc (zv out)) (rz : Zr h0 la zs) (hi : i < zs.length) (hk : k ≤ out.length)
    (hK : ∀ a c h', RowS h' TR 3 a (out.take k ++ [zs[i]] ++ out.drop k).length c (zv (out.take k ++ [zs[i]] ++ out.drop k)) → New h0 h' → K ((a, (out.take k ++ [zs[i]] ++ out.drop k).length, c), IntKind.wrap .i64 ((i : Int) + 1)) h') : tailF oa on oc la zs.length (i : Int) (k : Int) K h0 := by
  subst hon
  have hoc : out.length ≤ oc := ro.le
  have roZ := Zr.row ro
  unfold tailF
  refine pre_of (by omega) (Zr.ldp rz hi hi fun b o ela => ?_)
  subst ela
  refine ⟨⟨by omega, by omega, by omega, by omega⟩, ?_⟩
  rw [Int.toNat_natCast k, Int.toNat_natCast out.length, Int.toNat_natCast oc]
  have rp := roZ.take oc k hoc
  have rs := Zr.drop roZ oc k hoc
  have lp : k = (out.take k).length := by rw [List.length_take]; omega
  have ls : out.length - k = (out.drop k).length := by rw [List.length_drop]
  have ltk : (out.take k).length ≤ 60 := by rw [List.length_take]; omega
  have ldk : (out.drop k).length ≤ 60 := by rw [List.length_drop]; omega
  generalize sliceBase oa 0 oc 3 = pa at rp ⊢
  generalize sliceBase oa k oc 3 = sa at rs ⊢
  generalize out.length - k = sl at ls ⊢
  generalize hP : out.take k = P at *
  generalize hS : out.drop k = S at *
  obtain ⟨z, hz⟩ : ∃ z, z = zs[i] := ⟨_, rfl⟩
  rw [← hz] at hK ⊢
  have rd : ∀ {h'}, New h0 h' → ∀ j, j < 3 → cellH h' (Addr.add (Addr.add ⟨b, o, none⟩ (Int.toNat (i : Int) * 3)) j) = (encL z)[j]? := fun n j hj => by
    obtain ⟨b', o', e, _, hc⟩ := rz.new n i _ (List.getElem?_eq_getElem hi)
    injection e with e; injection e with e1 e2; subst e1; subst e2
    rw [add_mk, add_mk, Int.toNat_natCast, Nat.add_assoc, hc j hj, hz]
  have hr0 : ∀ {q : Nat}, h0.size ≤ q → ∀ b : Nat, blkOf (some (⟨q, 0, none⟩ : Addr)) = some b → h0.size ≤ b := fun {q} hq b e => by injection e with e; change q = b at e; omega
  refine ⟨new_of fun h1 b1 n1 s1 => ⟨?_, ?_⟩, new_of fun h1 b1 n1 s1 => new_of fun h2 b2 n2 s2 => ?_⟩
  · have nw : ∀ {h' a n c xs}, Grow h1 (blkOf (some (⟨h0.size, 0, none⟩ : Addr))) h' TR 3 a n c xs → New h0 h' := fun g => g.upd.grow n1 (hr0 (Nat.le_refl _))
    refine Grow.zs ap3R (xs := []) (Grow.start (RowS.nil' h1 TR 3 (some ⟨h0.size, 0, none⟩))) (rp.new n1) lp (by simp; omega) (by omega) fun a3 c3 h3 g3 _ => ?_
    rw [List.nil_append] at g3 ⊢
    have n3 := nw g3
    refine ⟨rd n3 0 (by omega), rd n3 1 (by omega), rd n3 2 (by omega), new_of fun h4 b4 n4 s4 => ?_⟩
    refine Grow.zs ap3R (g3.new n4) (zr1 (z := z) b4) rfl (by simp; omega) (by omega) fun a5 c5 h5 g5 _ => ?_
    have n5 := nw g5
    refine ⟨rd n5 0 (by omega), rd n5 1 (by omega), rd n5 2 (by omega), ?_⟩
    refine Grow.zs ap3R g5 (rs.new n5) ls (by simp; omega) (by omega) fun a6 c6 h6 g6 _ => ?_
    have n6 := nw g6
    exact ⟨rd n6 0 (by omega), rd n6 1 (by omega), rd n6 2 (by omega), hK a6 c6 h6 g6.row n6⟩
  · refine new_of fun h2 b2 n2 s2 => ?_
    have nw : ∀ {h' a n c xs}, Grow h2 (blkOf (some (⟨h0.size, 0, none⟩ : Addr))) h' TR 3 a n c xs → New h0 h' := fun g => g.upd.grow (n1.trans n2) (hr0 (Nat.le_refl _))
    refine Grow.zs ap3R (xs := []) (Grow.start (RowS.nil' h2 TR 3 (some ⟨h0.size, 0, none⟩))) (rp.new (n1.trans n2)) lp (by simp; omega) (by omega) fun a3 c3 h3 g3 _ => ?_
    rw [List.nil_append] at g3 ⊢
    have n3 := nw g3
    refine ⟨rd n3 0 (by omega), rd n3 1 (by omega), rd n3 2 (by omega), ?_⟩
    have z3 : Zr h3 (some ⟨h1.size, 0, none⟩) [z] := Zr.keep (zr1 (z := z) b2) g3.upd (by intro e; injection e with e; change h0.size = h1.size at e; omega)
    refine Grow.zs ap3R g3 z3 rfl (by simp; omega) (by omega) fun a5 c5 h5 g5 _ => ?_
    have n5 := nw g5
    refine ⟨rd n5 0 (by omega), rd n5 1 (by omega), rd n5 2 (by omega), ?_⟩
    refine Grow.zs ap3R g5 (rs.new n5) ls (by simp; omega) (by omega) fun a6 c6 h6 g6 _ => ?_
    have n6 := nw g6
    exact ⟨rd n6 0 (by omega), rd n6 1 (by omega), rd n6 2 (by omega), hK a6 c6 h6 g6.row n6⟩
  · have hq : h0.size ≤ h1.size := n1.size
    have nw : ∀ {h' a n c xs}, Grow h2 (blkOf (some (⟨h1.size, 0, none⟩ : Addr))) h' TR 3 a n c xs → New h0 h' := fun g => g.upd.grow (n1.trans n2) (hr0 hq)
    refine Grow.zs ap3R (xs := []) (Grow.start (RowS.nil' h2 TR 3 (some ⟨h1.size, 0, none⟩))) (rp.new (n1.trans n2)) lp (by simp; omega) (by omega) fun a3 c3 h3 g3 _ => ?_
    rw [List.nil_append] at g3 ⊢
    have n3 := nw g3
    refine ⟨rd n3 0 (by omega), rd n3 1 (by omega), rd n3 2 (by omega), ?_⟩
    have z3 : Zr h3 (some ⟨h0.size, 0, none⟩) [z] := Zr.keep (zr1 (z := z) (b1.new n2)) g3.upd (by intro e; injection e with e; change h1.size = h0.size at e; omega)
    refine Grow.zs ap3R g3 z3 rfl (by simp; omega) (by omega) fun a5 c5 h5 g5 _ => ?_
    have n5 := nw g5
    refine ⟨rd n5 0 (by omega), rd n5 1 (by omega), rd n5 2 (by omega), ?_⟩
    refine Grow.zs ap3R g5 (rs.new n5) ls (by simp; omega) (by omega) fun a6 c6 h6 g6 _ => ?_
    have n6 := nw g6
    exact ⟨rd n6 0 (by omega), rd n6 1 (by omega), rd n6 2 (by omega), hK a6 c6 h6 g6.row n6⟩
/-- The reference sorts. -/
theorem sorted_ok {pol p : Int} (hp : 1 ≤ p ∧ p ≤ 16) (h : Heap) (a : Option Addr) (c n : Nat) (zs : List Z) (hn : n = zs.length) (hg : Goods p zs) (hl : zs.length ≤ 50) (r : Zr h a zs) :
    CallsH Try.prog 39 [.int .i64 pol, .int .i64 p, .slice a n c] h fun v h' => ∃ a' c', v = .slice a' (sortZ pol p zs).length c' ∧ RowS h' TR 3 a' (sortZ pol p zs).length c' (zv (sortZ pol p zs)) ∧ New h h' := by
  subst hn
  refine fun_ok hm' Try.func39 (by kernel_rfl) (F39_eq _ _ _ _ _ _ h) ?_
  unfold F39
  refine new_of fun h0 b0 n0 s0 => ?_
  let Inv : (Option Addr × Nat × Nat) × Int → Heap → Prop := fun s h' => ∃ (i : Nat) (out : List Z), s.2 = i ∧ i ≤ zs.length ∧ out = (zs.take i).foldl (fun out x => insZ pol p x out) [] ∧ s.1.2.1 = out.length ∧ RowS h' TR 3 s.1.1 s.1.2.1 s.1.2.2 (zv out) ∧ New h h'
  refine ⟨Inv, fun (s : (Option Addr × Nat × Nat) × Int) _ => ((zs.length : Int) - s.2).toNat, ⟨0, [], rfl, Nat.zero_le _, by simp, rfl, RowS.nil' h0 TR 3 (some ⟨h.size, 0, none⟩), n0⟩, ?_⟩
  rintro ⟨⟨oa, on, oc⟩, s⟩ j h1 ⟨i, out, hs, hi, hout, hon, ro, n1⟩
  have hs : s = (i : Int) := hs
  subst hs
  have hon : on = out.length := hon
  have ro : RowS h1 TR 3 oa on oc (zv out) := ro
  have hperm : out.Perm (zs.take i) := by rw [hout]; simpa using foldZ_perm pol p (zs.take i) []
  have hol : out.length = i := by rw [hperm.length_eq, List.length_take]; omega
  have hok : ∀ z ∈ out, okZ p z := fun z hz => hg.ok z (List.mem_of_mem_take (hperm.mem_iff.1 hz))
  refine br_of (fun hlt => ?_) (fun hlt => ?_)
  · have hlt : (i : Int) < (zs.length : Int) := of_decide_eq_true hlt
    have hiL : i < zs.length := by omega
    have hz := hg.ok zs[i] (List.getElem_mem hiL)
    have fin : ∀ (k : Nat) (h2 : Heap), k ≤ out.length → (∀ y ∈ out.take k, aheadB pol p y zs[i] = true) → (∀ hh : k < out.length, aheadB pol p out[k] zs[i] = false) → New h1 h2 → tailF oa on oc a zs.length (i : Int) (k : Int) (fun t h' => Inv t h' ∧ ((zs.length : Int) - t.2).toNat < ((zs.length : Int) - (i : Int)).toNat) h2 := fun k h2 hk h3 h4 n2 => by
      refine tail_ok hon (by omega) (ro.new n2) (r.new (n1.trans n2)) hiL hk fun a5 c5 h5 r5 n5 => ?_
      rw [← insZ_at hk h3 h4] at r5 ⊢
      refine ⟨⟨i + 1, insZ pol p zs[i] out, (by first | (rw [wr64 (by omega) (by omega)]; omega) | (simp only [IntKind.wrap_i64]; omega)), hiL, ?_, rfl, r5, n1.trans (n2.trans n5)⟩, (by dsimp only; first | (rw [wr64 (by omega) (by omega)]; omega) | (rw [wr64 (by omega) (by omega), wr64 (by omega) (by omega)]; omega) | (simp only [IntKind.wrap_i64]; omega))⟩
      rw [← List.take_append_getElem hiL, List.foldl_append, ← hout]; rfl
    refine ⟨fun (s : Int) h' => ∃ k : Nat, s = k ∧ k ≤ out.length ∧ (∀ y ∈ out.take k, aheadB pol p y zs[i] = true) ∧ New h1 h', fun (s : Int) _ => ((out.length : Int) - s).toNat, ⟨0, rfl, Nat.zero_le _, by simp, New.refl _⟩, ?_⟩
    rintro s j2 h2 ⟨k, rfl, hk, hall, n2⟩
    refine br_of (fun hlt2 => ?_) (fun hlt2 => ?_)
    · have hlt2 : (k : Int) < (on : Int) := of_decide_eq_true hlt2
      have hkL : k < out.length := by omega
      have hko := hok out[k] (List.getElem_mem hkL)
      refine (Zr.row (ro.new n2)).ld hkL (by omega) ((r.new (n1.trans n2)).ld hiL hiL (call_of (ahead_ok (pol := pol) out[k] zs[i] hko hz hp.2 h2) ?_))
      rintro v h3 ⟨rfl, n3⟩
      refine ⟨_, rfl, br_of (fun he => ?_) (fun he => ?_)⟩
      · have he : aheadB pol p out[k] zs[i] = true := he
        refine ⟨⟨k + 1, (by first | (rw [wr64 (by omega) (by omega)]; omega) | (simp only [IntKind.wrap_i64]; omega)), hkL, fun y hy => ?_, n2.trans n3⟩, (by dsimp only; first | (rw [wr64 (by omega) (by omega)]; omega) | (rw [wr64 (by omega) (by omega), wr64 (by omega) (by omega)]; omega) | (simp only [IntKind.wrap_i64]; omega))⟩
        rw [← List.take_append_getElem hkL] at hy
        rcases List.mem_append.1 hy with hy | hy
        · exact hall y hy
        · obtain rfl := List.mem_singleton.1 hy; exact he
      · exact fin k h3 hk hall (fun _ => he) (n2.trans n3)
    · have hlt2 : ¬ (k : Int) < (on : Int) := of_decide_eq_false hlt2
      exact fin k h2 hk hall (fun hh => by omega) n2
  · have hlt : ¬ (i : Int) < (zs.length : Int) := of_decide_eq_false hlt
    have : i = zs.length := by omega
    subst this
    rw [List.take_length] at hout
    have hout : out = sortZ pol p zs := hout
    subst hout
    subst hon
    exact ⟨oa, oc, rfl, ro, n1⟩
end Go.Proofs.Yticppjmldlhbiaa.VicR
