/-
  The laws' own functions of layer 16: large, and the calls that are made first.
-/
import Derived.Test.YtgohecjnjadnpaaDoorMedQ
import Derived.Test.YtgohecjnjadnpaaDoorSame3
namespace Go.Proofs.YtgohecjnjadnpaaDoor.MedA
open Go.Pl Go.Proofs.YtgohecjnjadnpaaDoor.W Go.Proofs.YtgohecjnjadnpaaDoor.Byts Go.Proofs.YtgohecjnjadnpaaDoor.As Go.Proofs.YtgohecjnjadnpaaDoor.Err Go.Proofs.YtgohecjnjadnpaaDoor.Head Go.Proofs.YtgohecjnjadnpaaDoor.HdP Go.Proofs.YtgohecjnjadnpaaDoor.Zns Go.Proofs.YtgohecjnjadnpaaDoor.ZnsP Go.Proofs.YtgohecjnjadnpaaDoor.Geo Go.Proofs.YtgohecjnjadnpaaDoor.Med
/- ACTS THAT CAME IN. -/
abbrev HdS : Sh := .pair (.int .u8) (.pair (.int .u32) (.pair (.int .u32) (.int .u32)))
abbrev GeoS : Sh := .pair (.int .i64) (.pair (.int .i64) (.int .i64))
abbrev ActS : Sh := .pair (.int .i64) (.pair (.int .i64) (.pair (.int .u32) (.pair HdS (.pair (.slice (.int .u8)) (.pair (.slice (.int .i64)) (.slice .bool))))))
abbrev ActT := Int × Int × Int × Hd × List Int × List Int × List Bool
def actOf (x : ActT) : Act := ⟨x.1, x.2.1, x.2.2.1, x.2.2.2.1, x.2.2.2.2.1, x.2.2.2.2.2.1, x.2.2.2.2.2.2⟩
theorem bools_in {h : Heap} {cs : List Value} {l : List Bool} (r : Reads h (.slice .bool) cs l) : ∃ a c, cs = [.slice a l.length c] ∧ ZnsP.Bo h a l := by
  obtain ⟨a, c, e, _, _, _, hr⟩ := r
  refine ⟨a, c, e, fun i x hi => ?_⟩
  obtain ⟨b, o, es, e1, hb, hl, hc, e2⟩ := hr i x hi
  have := hc 0 Nat.one_pos
  rw [e2] at this
  exact ⟨b, o, e1, hb, by simpa [Sh.n] using this⟩
theorem ints_in {k : IntKind} {h : Heap} {cs : List Value} {l : List Int} (r : Reads h (.slice (.int k)) cs l) : ∃ a c, cs = [.slice a l.length c] ∧ Ar k h a l ∧ (∀ x ∈ l, (Lit.int k x).wf = true) ∧ l.length ≤ c ∧ c ≤ maxLen ∧ (a = none → c = 0) := by
  have r' := r
  obtain ⟨a, c, e, h1, h2, h3, _⟩ := r
  subst e
  obtain ⟨a', c', e', _, _, _, har, hw⟩ := Ar.reads (h := h) (v := .slice a (List.length (α := (Sh.int k).T) l) c) (xs := l) ⟨_, rfl, r'⟩
  injection e' with e1 e2 e3
  subst e1
  exact ⟨a, c, rfl, har, hw, h1, h2, h3⟩
theorem act_in {h : Heap} {es : List Value} {x : ActT} (r : Reads h ActS es x) : ∃ ba bc ka kc ta tc, es = (actA (actOf x) ba ka ta bc kc tc).toList ∧ ActIn h (actOf x) ba bc ka ta := by
  obtain ⟨c1, d1, rfl, ⟨rfl, _⟩, c2, d2, rfl, ⟨rfl, w2⟩, c3, d3, rfl, ⟨rfl, w3⟩, c4, d4, rfl, ⟨e1, f1, rfl, ⟨rfl, v1⟩, e2, f2, rfl, ⟨rfl, v2⟩, e3, f3, rfl, ⟨rfl, v3⟩, rfl, v4⟩, c5, d5, rfl, hb, c6, d6, rfl, hk, ht⟩ := r
  obtain ⟨ba, bc, rfl, arb, wb, h1, h2, h3⟩ := ints_in hb
  obtain ⟨ka, kc, rfl, ark, wk, _⟩ := ints_in hk
  obtain ⟨ta, tc, rfl, bt⟩ := bools_in ht
  exact ⟨ba, bc, ka, kc, ta, tc, rfl, ⟨arb, h1, h2, h3, Byt.wf wb⟩, ark, bt, ⟨u8_wf v1, u32_wf v2, u32_wf v3, u32_wf v4⟩, u32_wf w3, (i64_wf w2).2, fun y hy => i64_wf (wk y hy)⟩
theorem ActIn.new {h h' : Heap} {x : Act} {ba ka ta : Option Addr} {bc : Nat} (i : ActIn h x ba bc ka ta) (n : New h h') : ActIn h' x ba bc ka ta :=
  ⟨i.b.new n, i.keep.new n, fun j y hy => by
    obtain ⟨b, o, e, hl, hc⟩ := i.tear j y hy
    exact ⟨b, o, e, Nat.lt_of_lt_of_le hl n.size, by rw [cellH_same (n.same b hl)]; exact hc⟩, i.hd, i.addr, i.zone, i.kw⟩
abbrev Sc := Option Addr × Nat × Nat
abbrev ActC := Int × Int × Int × Int × Int × Int × Int × Sc × Sc × Sc
abbrev ActY : List CTy := [.int .i64, .int .i64, .int .u32, .int .u8, .int .u32, .int .u32, .int .u32, .slice, .slice, .slice]
def actC (x : Act) (ba ka ta : Option Addr) (bc kc tc : Nat) : ActC := (x.op, x.zone, x.addr, x.hd.1, x.hd.2.1, x.hd.2.2.1, x.hd.2.2.2, (ba, x.b.length, bc), (ka, x.keep.length, kc), (ta, x.tear.length, tc))
theorem actC_vals (x : Act) (ba ka ta : Option Addr) (bc kc tc : Nat) : cvals ActY (actC x ba ka ta bc kc tc) = (actA x ba ka ta bc kc tc).toList := rfl
/-- The acts of a list, loaded one by one. -/
theorem act_at {h0 h : Heap} {a : Option Addr} {l : List ActT} (r : SlAt h0 ActS a l) (n : New h0 h) {i : Nat} (hi : i < l.length) : ∃ ba bc ka kc ta tc, ActIn h0 (actOf l[i]) ba bc ka ta ∧
    ∀ {m : Nat} {F : ActC → Prop}, i < m → F (actC (actOf l[i]) ba ka ta bc kc tc) → ptrW a (fun p => idxW (i : Int) m true (ldAggW ActY (Addr.add p (Int.toNat (i : Int) * 10)) F h)) := by
  obtain ⟨b, o, es, rfl, hb, hel, hc, re⟩ := r i _ (List.getElem?_eq_getElem hi)
  obtain ⟨ba, bc, ka, kc, ta, tc, rfl, hin⟩ := act_in re
  refine ⟨ba, bc, ka, kc, ta, tc, hin, fun hm hF => ?_⟩
  exact agg_at (k := 10) (actC (actOf l[i]) ba ka ta bc kc tc) (es := (actA (actOf l[i]) ba ka ta bc kc tc).toList) (fun j hj => by rw [cellH_same (n.same b hb)]; exact hc j hj) (actC_vals ..).symm rfl hm hF
theorem ldAct {h : Heap} {b : Nat} {T : TypeId} {x : Act} {ba ka ta : Option Addr} {bc kc tc : Nat} (bb : Blk h b (actA x ba ka ta bc kc tc) T) {F : ActC → Prop} (hF : F (actC x ba ka ta bc kc tc)) : ldAggW ActY ⟨b, 0, none⟩ F h :=
  ldAgg_blk (actC x ba ka ta bc kc tc) bb ⟨rfl, rfl, rfl, rfl, rfl, rfl, rfl, rfl, rfl, rfl, trivial⟩ hF
theorem zeroAct : (zeroC Tryd.prog 88).size = 10 := by kernel_rfl
def small (x : Act) : Prop := x.b.length ≤ 100 ∧ x.keep.length ≤ 100 ∧ x.tear.length ≤ 100
instance (x : Act) : Decidable (small x) := by unfold small; infer_instance
def isLarge (l : List ActT) : Bool := !decide (l.length ≤ 100 ∧ ∀ x ∈ l, small (actOf x))
theorem large_ok (a : Option Addr) (c : Nat) (l : List ActT) (h : Heap) (r : SlAt h ActS a l) : CallsH Tryd.prog 44 [.slice a l.length c] h fun v h' => v = .bool (isLarge l) ∧ New h h' := by
  refine fun_ok Geo.hm' Tryd.func44 (by kernel_rfl) (F44_eq _ _ _ _ h) ?_
  unfold F44
  refine br_of (fun h0 => ⟨?_, New.refl h⟩) fun h0 => ?_
  · have h0 := of_decide_eq_true h0
    unfold isLarge; rw [decide_eq_false (by omega)]; rfl
  have hl : l.length ≤ 100 := by have := of_decide_eq_false h0; omega
  refine ⟨fun (s : Int) h' => ∃ i : Nat, s = i ∧ i ≤ l.length ∧ New h h' ∧ ∀ x ∈ l.take i, small (actOf x), fun (s : Int) _ => ((l.length : Int) - s).toNat, ⟨0, rfl, by omega, New.refl h, by simp⟩, ?_⟩
  rintro s j h1 ⟨i, rfl, hi, n1, hall⟩
  refine br_of (fun hlt => ?_) (fun hlt => ?_)
  · have hlt : i < l.length := by have := of_decide_eq_true hlt; omega
    obtain ⟨ba, bc, ka, kc, ta, tc, _, ld⟩ := act_at r n1 hlt
    refine ld hlt (new_stL (by rw [zeroAct]; rfl) fun h2 b2 n2 s2 => ?_)
    have b2 : Blk h2 h1.size (actA (actOf l[i]) ba ka ta bc kc tc) 88 := b2
    have no : ¬ small (actOf l[i]) → Value.bool true = Value.bool (isLarge l) := fun hh => by
      unfold isLarge; rw [decide_eq_false (fun h => hh (h.2 _ (List.getElem_mem hlt)))]; rfl
    refine ld_of (c := .slice) (ba, (actOf l[i]).b.length, bc) (by rw [add_mk, cellH_blk b2]; rfl) (br_of (fun hx => ⟨no fun hh => ?_, n1.trans n2⟩) fun hx => ld_of (c := .slice) (ka, (actOf l[i]).keep.length, kc) (by rw [add_mk, cellH_blk b2]; rfl) (br_of (fun hy => ⟨no fun hh => ?_, n1.trans n2⟩) fun hy => ld_of (c := .slice) (ta, (actOf l[i]).tear.length, tc) (by rw [add_mk, cellH_blk b2]; rfl) (br_of (fun hz => ⟨no fun hh => ?_, n1.trans n2⟩) fun hz => ?_)))
    · have hx : ((actOf l[i]).b.length : Int) > 100 := of_decide_eq_true hx; have h1 := hh.1; omega
    · have hy : ((actOf l[i]).keep.length : Int) > 100 := of_decide_eq_true hy; have h1 := hh.2.1; omega
    · have hz : ((actOf l[i]).tear.length : Int) > 100 := of_decide_eq_true hz; have h1 := hh.2.2; omega
    · have hx : ¬ ((actOf l[i]).b.length : Int) > 100 := of_decide_eq_false hx; have hy : ¬ ((actOf l[i]).keep.length : Int) > 100 := of_decide_eq_false hy; have hz : ¬ ((actOf l[i]).tear.length : Int) > 100 := of_decide_eq_false hz
      rw [wr64 (by omega) (by omega)]
      refine ⟨⟨i + 1, by omega, by omega, n1.trans n2, fun x hm => ?_⟩, (by first | omega | (dsimp only; omega) | (simp only []; omega))⟩
      rw [List.take_add_one, List.getElem?_eq_getElem hlt] at hm
      rcases List.mem_append.1 hm with hm | hm
      · exact hall x hm
      · simp only [Option.toList_some, List.mem_singleton] at hm; subst hm; exact ⟨by omega, by omega, by omega⟩
  · have hi : i = l.length := by have := of_decide_eq_false hlt; omega
    subst hi
    rw [List.take_length] at hall
    refine ⟨?_, n1⟩
    unfold isLarge; rw [decide_eq_true ⟨hl, hall⟩]; rfl
/- THE CALLS THAT ARE MADE FIRST. -/
def hdW : Hd := (1, 1, 2, 3)
def bsW : List Int := [0, 0, 0, 9, 0, 0, 0, 0, 0, 0, 0, 0, 0, 0, 0, 0]
theorem hdW_ok : HdOk hdW := ⟨by decide, by decide, by decide, by decide⟩
theorem bsW_byt : Byt bsW := fun x hx => by
  unfold bsW at hx
  simp only [List.mem_cons, List.not_mem_nil, or_false] at hx
  omega
def D0 : Dev := Dev.empty 11 4
def D1 : Dev := (putM 11 4 D0 1 hdW bsW).1
def D2 : Dev := (putM 11 4 D1 1 hdW bsW).1
theorem w1 : (putM 11 4 D0 1 hdW bsW).2 = (5, 0) := by kernel_rfl
theorem w2 : (putM 11 4 D1 1 hdW bsW).2 = (6, 0) := by kernel_rfl
theorem w3 : putM 11 4 D2 9 hdW bsW = (D2, 0, 1) := by kernel_rfl
theorem w4 : getM 11 4 D2 6 = (hdW, bsW, 0) := by kernel_rfl
theorem w5 : scanM 11 4 D2 = [(5, hdW), (6, hdW)] := by kernel_rfl
theorem w6 : (D2.zs.length, D2.P) = (11, 4) := by kernel_rfl
theorem w7 : rightB 11 4 6 = true := by kernel_rfl
theorem g0 : GOk 11 4 D0 := ⟨by omega, by omega, by kernel_rfl, rfl, DevOk.empty (by omega) (by omega)⟩
theorem g1 : GOk 11 4 D1 := GOk.put g0 1 hdW_ok bsW_byt
theorem g2 : GOk 11 4 D2 := GOk.put g1 1 hdW_ok bsW_byt
theorem size8 : sizeN Tryd.prog 5 = 1 := by kernel_rfl
theorem zero8 : zeroC Tryd.prog 5 = #[.int .u8 0] := by kernel_rfl
theorem bytes8 : bytesN Tryd.prog 5 = 1 := by kernel_rfl
theorem zeroG : (zeroC Tryd.prog 85).size = 3 := by kernel_rfl
theorem bsW_arr : (Array.replicate 16 (Value.int .u8 0)).setIfInBounds 3 (.int .u8 9) = (bsW.map (Value.int .u8)).toArray := by kernel_rfl
theorem own1 : ∀ p : Nat × Nat, p.1 = 0 → p.1 ≠ 1 := fun p h e => by omega
theorem pgs_at {h : Heap} {a : Option Addr} {L : List Pg} (r : PR h a L) {j : Int} {i n : Nat} (hj : j = i) (hi : i < L.length) (hn : i < n) {F : PgC → Prop} (hF : F (L[i].1, L[i].2.1, L[i].2.2.1, L[i].2.2.2.1, L[i].2.2.2.2)) :
    ptrW a (fun p => idxW j n true (ldAggW [.int .u32, .int .u8, .int .u32, .int .u32, .int .u32] (Addr.add p (Int.toNat j * 5)) F h)) := by subst hj; exact r.ld hi hn hF
theorem awake_ok (h : Heap) (hg : Laid h) : CallsH Tryd.prog 42 [] h fun v h' => v = .bool true ∧ New h h' := by
  refine fun_ok Geo.hm' Tryd.func42 (by kernel_rfl) (F42_eq _ h) ?_
  unfold F42
  rw [zeroH]
  refine new_stL (by rw [zeroG]; rfl) fun h1 b1 n1 s1 => ?_
  refine call_of (ZnsP.new_ok 1 (by decide) (fun _ => (0, 0)) 11 4 h1 (by omega) (by omega)) ?_
  rintro v h2 ⟨b, rfl, n2, _, t2, ht2, r2⟩
  have r2 : PRep 1 t2 h2 b D0 := r2
  have b2 := b1.new n2
  refine ⟨(some ⟨b, 0, none⟩, errV 0), rfl, br_f rfl ?_⟩
  refine new_stL rfl fun h3 b3 n3 s3 => mk_of (n := 16) size8 zero8 (by rw [bytes8]; omega) (by omega) fun h4 b4 n4 s4 => ?_
  refine ⟨⟨⟨by omega, by omega⟩, rfl⟩, ?_⟩
  rw [add_mk]
  refine st_blk b4 (by rw [Array.size_replicate]; decide) fun h5 b5 o5 => ?_
  have b5 : Blk h5 h3.size (bsW.map (Value.int .u8)).toArray 5 := by rw [← bsW_arr]; exact b5
  have n25 : New h2 h5 := o5.upd.new (n3.trans n4) n3.size
  have s5 := o5.size
  have k3 : Blk h5 h2.size _ 24 := (b3.new n4).only o5 (by omega)
  have t1 : t2 h.size = (0, 0) := ht2 _ (by omega)
  have r5 : PRep 1 (lay t2 h2.size (0, 0)) h5 b D0 := PRep.lay r2 n25
  have q1 : lay t2 h2.size (0, 0) h.size = (0, 0) := by rw [lay_lt (by have := b2.lt; omega)]; exact t1
  have q2 : lay t2 h2.size (0, 0) h2.size = (0, 0) := lay_ge (Nat.le_refl _)
  have q3 : lay t2 h2.size (0, 0) h3.size = (0, 0) := lay_ge (by omega)
  have f5 : Fr (fun p => p.1 ≠ 1) t2 h2 (lay t2 h2.size (0, 0)) h5 := Fr.lay n25 _
  have k1 := b2.new n25
  generalize lay t2 h2.size (0, 0) = t5 at r5 q1 q2 q3 f5
  -- three blocks stay through a call that turns the device alone
  have kp : ∀ {u u' : Tags} {x y : Heap} {g : Nat} {arr : Array Value} {T : TypeId}, Fr (fun p => p.1 ≠ 1) u x u' y → u g = (0, 0) → Blk x g arr T → Blk y g arr T ∧ u' g = (0, 0) := fun f e bb => ⟨f.blk bb (by rw [e]; decide), by rw [f.tags _ bb.lt]; exact e⟩
  have sl : ∀ {x : Heap}, Blk x h3.size (bsW.map (Value.int .u8)).toArray 5 → Sl8 x (some ⟨h3.size, 0, none⟩) 16 bsW := fun bb => ⟨Ar.blk bb, by decide, by decide, fun e => (by cases e), bsW_byt⟩
  refine ldAgg_blk ((11 : Int), (4 : Int), (6 : Int)) k1 ⟨rfl, rfl, rfl, trivial⟩ (ldAgg_blk hdW k3 ⟨rfl, rfl, rfl, rfl, trivial⟩ (call_of (put_ok (by decide) g0 6 1 hdW hdW_ok _ 16 bsW h5 r5 (sl b5)) ?_))
  rintro v h6 ⟨e6, l6, rfl, he6, t6, r6, f6⟩
  have r6 : PRep 1 t6 h6 b D1 := r6
  rw [w1] at he6 ⊢
  refine ⟨((5 : Int), e6), rfl, ?_⟩
  obtain ⟨k1, q1⟩ := kp f6 q1 k1
  obtain ⟨k3, q2⟩ := kp f6 q2 k3
  obtain ⟨b5, q3⟩ := kp f6 q3 b5
  refine ldAgg_blk ((11 : Int), (4 : Int), (6 : Int)) k1 ⟨rfl, rfl, rfl, trivial⟩ (ldAgg_blk hdW k3 ⟨rfl, rfl, rfl, rfl, trivial⟩ (call_of (put_ok (by decide) g1 6 1 hdW hdW_ok _ 16 bsW h6 r6 (sl b5)) ?_))
  rintro v h7 ⟨e7, l7, rfl, he7, t7, r7, f7⟩
  have r7 : PRep 1 t7 h7 b D2 := r7
  rw [w2] at he7 ⊢
  refine ⟨((6 : Int), e7), rfl, ?_⟩
  obtain ⟨k1, q1⟩ := kp f7 q1 k1
  obtain ⟨k3, q2⟩ := kp f7 q2 k3
  obtain ⟨b5, q3⟩ := kp f7 q3 b5
  refine ldAgg_blk ((11 : Int), (4 : Int), (6 : Int)) k1 ⟨rfl, rfl, rfl, trivial⟩ (ldAgg_blk hdW k3 ⟨rfl, rfl, rfl, rfl, trivial⟩ (call_of (put_ok (by decide) g2 6 9 hdW hdW_ok _ 16 bsW h7 r7 (sl b5)) ?_))
  rintro v h8 ⟨e8, l8, rfl, he8, t8, r8, f8⟩
  rw [w3] at he8 r8 ⊢
  refine ⟨((0 : Int), e8), rfl, ?_⟩
  obtain ⟨k1, q1⟩ := kp f8 q1 k1
  obtain ⟨k3, q2⟩ := kp f8 q2 k3
  obtain ⟨b5, q3⟩ := kp f8 q3 b5
  have hs28 : h2.size ≤ h8.size := by have := n25.size; have := f6.size; have := f7.size; have := f8.size; omega
  have f28 := ((f5.trans f6).trans f7).trans f8
  have n28 : New h h8 := ⟨by have := n1.size; have := n2.size; omega, fun c hc => by
    have h1 : t2 c = (0, 0) := ht2 c (by omega)
    rw [f28.same c (by have := n1.size; have := n2.size; omega) (by rw [h1]; decide)]
    exact (n1.trans n2).same c hc⟩
  refine ldAgg_blk ((11 : Int), (4 : Int), (6 : Int)) k1 ⟨rfl, rfl, rfl, trivial⟩ (call_of (get_ok g2 6 6 (by omega) h8 r8) ?_)
  rintro v h9 ⟨a9, c9, e9, l9, rfl, he9, g9⟩
  rw [w4] at he9 g9 ⊢
  refine ⟨(hdW, (a9, 16, c9), e9), rfl, new_stL rfl fun h10 b10 n10 s10 => ?_⟩
  have n810 := g9.new.trans n10
  refine ldAgg_blk ((11 : Int), (4 : Int), (6 : Int)) (k1.new n810) ⟨rfl, rfl, rfl, trivial⟩ (call_of (scan_ok g2 6 h10 (r8.new n810)) ?_)
  rintro v h11 ⟨⟨a11, c11, rfl, ow11⟩, n11⟩
  rw [w5] at ow11 ⊢
  have n811 := n810.trans n11
  have n011 := n28.trans n811
  have k1 := k1.new n811
  have k3 := k3.new n811
  refine ⟨(a11, 2, c11), rfl, br_t rfl ⟨he6.ok.1, br_t (by rw [he6.ok.2]; rfl) (br_t rfl ⟨he7.ok.1, br_t (by rw [he7.ok.2]; rfl) (call_of (code_ok e8 l8 1 h11 (hg.new n011) (he8.new n811)) ?_)⟩)⟩⟩
  rintro v h12 ⟨rfl, n12⟩
  have k1 := k1.new n12
  have k3 := k3.new n12
  refine ⟨(1 : Int), rfl, br_t rfl (ldAgg_blk hdW ((b10.new n11).new n12) ⟨rfl, rfl, rfl, rfl, trivial⟩ (ldAgg_blk hdW k3 ⟨rfl, rfl, rfl, rfl, trivial⟩ ⟨_, hd_eq hdW hdW, br_t (decide_eq_true rfl) ?_⟩))⟩
  refine call_of (Same3.same_ok _ _ 16 16 16 c9 h12 bsW bsW rfl rfl (by decide) (Ar.blk (b5.new (n811.trans n12))) (((g9.ar.new n10).new n11).new n12)) ?_
  rintro v h' ⟨rfl, hh⟩; subst h'
  have he9' := he9.ok
  refine ⟨true, by rw [decide_eq_true rfl] <;> rfl, br_t rfl ⟨he9.ok.1, br_t (by rw [he9.ok.2]; rfl) (br_t rfl ?_)⟩⟩
  have pr := (PR.own ow11).new n12
  refine pgs_at pr (i := 1) rfl (show 1 < 2 by decide) (show 1 < 2 by decide) (ldAgg_blk hdW k3 ⟨rfl, rfl, rfl, rfl, trivial⟩ ⟨_, pg_eqP (6, hdW) (6, hdW), br_t (decide_eq_true rfl) ?_⟩)
  refine ldAgg_blk ((11 : Int), (4 : Int), (6 : Int)) k1 ⟨rfl, rfl, rfl, trivial⟩ (call_of (fits_ok 11 4 6 h12 (r8.new (n811.trans n12))) ?_)
  rintro v h13 ⟨rfl, n13⟩
  have z1 : D2.zs.length = 11 := congrArg Prod.fst w6
  have z2 : D2.P = 4 := congrArg Prod.snd w6
  refine ⟨true, by rw [w7, z1, z2] <;> rfl, br_t rfl (call_of (fits_ok 12 4 6 h13 (r8.new ((n811.trans n12).trans n13))) ?_)⟩
  rintro v h14 ⟨rfl, n14⟩
  have z3 : (rightB 12 4 6 && (((11 : Nat) : Int) == 12 && (((4 : Nat) : Int) == 4))) = false := by kernel_rfl
  refine ⟨false, by rw [z1, z2, z3] <;> rfl, rfl, ((n011.trans n12).trans n13).trans n14⟩
end Go.Proofs.YtgohecjnjadnpaaDoor.MedA
