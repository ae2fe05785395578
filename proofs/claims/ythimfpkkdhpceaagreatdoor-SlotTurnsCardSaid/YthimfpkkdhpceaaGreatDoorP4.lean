/-
  Texts of this claim, one behind the other: SltW, SltR, SltS, SltL, WL15C, L15A, SltT, WL15T, WR2, R2, L15T.
-/
import Derived.Test.YthimfpkkdhpceaaGreatDoorP3
import Derived.Test.YthimfpkkdhpceaaGreatDoorProg
/-
  The contracts of package slot: Where, behind, Write.
-/
namespace Go.Proofs.YthimfpkkdhpceaaGreatDoor.Slt
open Go.Pl Go.Proofs.YthimfpkkdhpceaaGreatDoor.W Go.Proofs.YthimfpkkdhpceaaGreatDoor.Byts Go.Proofs.YthimfpkkdhpceaaGreatDoor.Four Go.Proofs.YthimfpkkdhpceaaGreatDoor.Adl Go.Proofs.YthimfpkkdhpceaaGreatDoor.As Go.Proofs.YthimfpkkdhpceaaGreatDoor.Err Go.Proofs.YthimfpkkdhpceaaGreatDoor.Head Go.Proofs.YthimfpkkdhpceaaGreatDoor.HdP Go.Proofs.YthimfpkkdhpceaaGreatDoor.Geo Go.Proofs.YthimfpkkdhpceaaGreatDoor.Zns Go.Proofs.YthimfpkkdhpceaaGreatDoor.ZnsP Go.Proofs.YthimfpkkdhpceaaGreatDoor.Ck Go.Proofs.YthimfpkkdhpceaaGreatDoor.Rng
theorem since {k b : Nat} {t : Tags} {h0 h h' : Heap} {D' : Dev} (n : New h0 h) (a : Acted k t h b D' h') : Acted k t h0 b D' h' := by
  obtain ⟨t', r, f⟩ := a
  exact ⟨t', r, (Fr.new0 n).trans f⟩
theorem till {k b : Nat} {t : Tags} {h h1 h2 : Heap} {D' : Dev} (a : Acted k t h b D' h1) (n : New h1 h2) : Acted k t h b D' h2 := by
  obtain ⟨t', r, f⟩ := a
  exact ⟨t', r.new n, f.trans (Fr.new0 n)⟩
theorem after {k b : Nat} {t t1 : Tags} {h h1 h2 : Heap} {D' : Dev} (f : Fr (fun p => p.1 ≠ k) t h t1 h1) (a : Acted k t1 h1 b D' h2) : Acted k t h b D' h2 := by
  obtain ⟨t', r, f'⟩ := a
  exact ⟨t', r, f.trans f'⟩
theorem stays {k b : Nat} {t : Tags} {h : Heap} {D : Dev} (r : PRep k t h b D) : Acted k t h b D h := ⟨t, r, Fr.refl _ _ _⟩
theorem where_ok {k b : Nat} {t : Tags} {D : Dev} (o : DevOk D) (n : Int) (hn : U32 n) (h : Heap) (r : PRep k t h b D) : CallsH Tryz.prog 22 [ptr b, .int .u32 n] h fun v h' => v = .int .i64 (whereS D n) ∧ h' = h := by
  obtain ⟨hn0, hn1⟩ := hn
  refine fun_ok Geo.hm' Tryz.func22 (by kernel_rfl) (F22_eq _ _ _ h) ?_
  unfold F22
  refine call_of (zones_ok h r) ?_
  rintro v h' ⟨rfl, hh⟩; subst h'
  have hz := o.zones
  refine ⟨(D.zs.length : Int), rfl, ?_, rfl⟩
  rw [Int.tmod_eq_emod_of_nonneg hn0, wr64 (n := n % 2) (by omega) (by omega), wr64 (n := (D.zs.length : Int) - 2) (by omega) (by omega), wr64 (by omega) (by omega)]
  rfl
theorem behind_ok (n m : Int) (h : Heap) : CallsH Tryz.prog 59 [.int .u32 n, .int .u32 m] h fun v h' => v = .bool (behindB n m) ∧ h' = h := by
  refine fun_ok Geo.hm' Tryz.func59 (by kernel_rfl) (F59_eq _ _ _ h) ?_
  unfold F59
  unfold behindB
  rw [wru32, wru32]
  refine br_of (fun h1 => ?_) fun h1 => br_of (fun h2 => ?_) fun h2 => ?_
  · rw [if_pos (by simpa using h1)]; exact ⟨rfl, rfl⟩
  · rw [if_neg (by simpa using h1), if_pos (by simpa using h2)]; exact ⟨rfl, rfl⟩
  · rw [if_neg (by simpa using h1), if_neg (by simpa using h2)]; exact ⟨rfl, rfl⟩
theorem Lies.fr {S : Nat × Nat → Prop} {t t' : Tags} {h0 h h' : Heap} {la : Option Addr} {m lc : Nat} {B : List Int} (l : Lies h0 h la m lc B) (s : Fr S t h t' h') (hS : ∀ b, h0.size ≤ b → b < h.size → S (t b)) : Lies h0 h' la m lc B := by
  obtain ⟨ba, bc, o1, o2, r⟩ := l
  exact ⟨ba, bc, o1.keep fun g _ hg hb _ => s.same g hb.lt (hS g hg hb.lt), o2.keep fun g _ hg hb _ => s.same g hb.lt (hS g hg hb.lt), r⟩
theorem pg_bytes (ses num : Int) (i : Nat) {b : List Int} (h : b.length = 16) : bytesF (5, ses, (i : Int), num) b = (pg ses num i b, 0) := by
  unfold bytesF
  rw [if_neg (by simp [isR]), if_neg (by omega)]; rfl
/-- What a call that turns the device leaves, with an error that is nobody's. -/
def ActE (k : Nat) (t : Tags) (h : Heap) (b : Nat) (D' : Dev) (c : Int) (v : Value) (h' : Heap) : Prop := ∃ l t', ErrT t' h' v l c ∧ PRep k t' h' b D' ∧ Fr (fun p => p.1 ≠ k) t h t' h'
theorem actE {k b : Nat} {t : Tags} {h h5 h6 : Heap} {D' : Dev} {c : Int} {v : Value} {l : List (ByteArray × Int)} (a : Acted k t h b D' h5) (e : ErrB h5.size h6 v l c) (n : New h5 h6) : ActE k t h b D' c v h6 := by
  obtain ⟨t', r, f⟩ := a
  exact ⟨l, lay t' h5.size (0, 0), e.tag rfl, PRep.lay r n, f.trans (Fr.lay n (0, 0))⟩
def WriteP (k b : Nat) (t : Tags) (D : Dev) (c : Chk) (h : Heap) (v : Value) (h' : Heap) : Prop := ActE k t h b (writeS D c).1 (writeS D c).2 v h'
theorem write_ok {k b : Nat} {t : Tags} {D : Dev} (hk : k ≠ 0) (o : DevOk D) (c : Chk) (oc : ChkOk c) (da : Option Addr) (dc : Nat) (h : Heap) (r : PRep k t h b D) (hd : Ar .u32 h da c.dir) :
    CallsH Tryz.prog 13 [ptr b, chkV c da dc] h (WriteP k b t D c h) := by
  refine fun_ok Geo.hm' Tryz.func13 (by kernel_rfl) (F13_eq _ _ _ _ _ _ _ _ _ _ _ h) ?_
  unfold F13
  have hzs := o.zones
  refine new_of fun h1 b1 n1 s1 => ldChk b1 ?_
  have b1 : Blk h1 h.size (chkA c da dc) 40 := b1
  have wr : IntKind.wrap .i64 c.num = c.num := by have := oc.num; unfold U32 at this; exact wr64 (by omega) (by omega)
  -- what is refused
  have no : ∀ hx, New h hx → Blk hx h.size (chkA c da dc) 40 → ((blocksC c).2 ≠ 0 ∨ c.z ≠ (D.zs.length : Int) ∨ c.p ≠ (D.P : Int)) →
      callT Tryz.prog 35 [.string ((⟨#[99, 104, 101, 99, 107, 112, 111, 105, 110, 116]⟩ : ByteArray)), .int .i64 c.num, .iface 31 (.int .i64 1)] [.sc .any] (fun (r18 : Value) h19 => WriteP k b t D c h r18 h19) hx := by
    intro hx nx bx hn
    refine call_of (wrap_b _ c.num 1 hx) ?_
    rintro v h2 ⟨l, he, n2⟩
    have e : writeS D c = (D, 1) := by unfold writeS; rw [if_pos hn]
    refine ⟨v, rfl, ?_⟩
    unfold WriteP; rw [e]; exact actE (till (stays r) nx) he n2
  cases hr : rightC c with
  | false =>
    refine call_of (blocks_no c da dc h1 hr) ?_
    rintro v h2 ⟨rfl, n2⟩
    have hc : (blocksC c).2 ≠ 0 := by unfold blocksC; rw [if_pos hr]; decide
    refine ⟨((none, 0, 0), errV 1), rfl, cut_q (ts := []) (fun _ _ => False) (fun _ _ hf => hf.elim) ?_⟩
    intro K _
    refine cut_q (ts := [.sc .bool]) (fun s h' => s = true ∧ h' = h2) ?_ ?_
    rotate_left
    · intro K2 hK2
      exact ⟨errV_if 1, br_t rfl (hK2 _ _ ⟨rfl, rfl⟩)⟩
    rintro s h' ⟨rfl, hh⟩ _; subst h'
    refine br_t rfl (ld_of (c := .int .u32) c.num (by rw [add_mk, cellH_blk (b1.new n2)]; rfl) ?_)
    rw [wr]
    exact no h2 (n1.trans n2) (b1.new n2) (.inl hc)
  | true =>
  obtain ⟨_, _, _, hb, hdl⟩ := right_c hr
  have ht : tabN c.b ≤ 16 := by unfold tabN; omega
  have hm : manyN c.b ≤ 100 := by unfold manyN lenN; omega
  have eb : blocksC c = (chunks (manyN c.b) (bytesC c), 0) := by unfold blocksC; rw [if_neg (by rw [hr]; simp)]
  have hlen := bytes_len hr
  have h16 := chunks_each hlen
  refine call_of (blocks_yes c da dc h1 hr (hd.new n1)) ?_
  rintro v h2 ⟨la, lc, rfl, li, n2⟩
  have n02 := n1.trans n2
  have b2 := b1.new n2
  have r2 := r.new n02
  refine ⟨((la, manyN c.b, lc), .nilIface), rfl, cut_q (ts := []) (fun _ h' => h' = h2 ∧ c.z = (D.zs.length : Int) ∧ c.p = (D.P : Int)) ?_ ?_⟩
  rotate_left
  · intro K hK
    refine cut_q (ts := [.sc .bool]) (fun s h' => s = decide (c.z ≠ (D.zs.length : Int) ∨ c.p ≠ (D.P : Int)) ∧ h' = h2) ?_ ?_
    rotate_left
    · intro K2 hK2
      have c0 : cellH h2 (Addr.add (Addr.add ⟨h.size, 0, none⟩ 3) 0) = some (.int .i64 c.z) := by rw [add_mk, add_mk, cellH_blk b2]; rfl
      have c1 : cellH h2 (Addr.add (Addr.add ⟨h.size, 0, none⟩ 3) 1) = some (.int .i64 c.p) := by rw [add_mk, add_mk, cellH_blk b2]; rfl
      refine ⟨.inl rfl, br_f rfl (ld_of (c := .int .i64) c.z c0 (call_of (zones_ok h2 r2) ?_))⟩
      rintro v h' ⟨rfl, hh⟩; subst h'
      refine ⟨(D.zs.length : Int), rfl, c0, br_of (fun h1 => hK2 _ _ ⟨?_, rfl⟩) fun h1 => ld_of (c := .int .i64) c.p c1 (call_of (pages_ok h2 r2) ?_)⟩
      · have h1 : c.z ≠ (D.zs.length : Int) := by simpa using h1
        exact (decide_eq_true (Or.inl h1)).symm
      · have h1 : c.z = (D.zs.length : Int) := by simpa using h1
        rintro v h' ⟨rfl, hh⟩; subst h'
        refine ⟨(D.P : Int), rfl, c1, c0, hK2 _ _ ⟨?_, rfl⟩⟩
        by_cases e : c.p = (D.P : Int)
        · have e2 : (c.p != (D.P : Int)) = false := by simp [e]
          exact e2.trans (decide_eq_false (by rintro (h | h); exact h h1; exact h e)).symm
        · have e2 : (c.p != (D.P : Int)) = true := by simp [e]
          exact e2.trans (decide_eq_true (Or.inr e)).symm
    rintro s h' ⟨rfl, hh⟩ _; subst h'
    refine br_of (fun h1 => ld_of (c := .int .u32) c.num (by rw [add_mk, cellH_blk b2]; rfl) ?_) fun h1 => hK () _ ⟨rfl, ?_⟩
    · rw [wr]
      exact no h2 n02 b2 (.inr (of_decide_eq_true h1))
    · have h1 := of_decide_eq_false h1
      exact ⟨Classical.not_not.1 fun h => h1 (.inl h), Classical.not_not.1 fun h => h1 (.inr h)⟩
  rintro _ h' ⟨hh, ez, ep⟩ _; subst h'
  have hno : ¬ ((blocksC c).2 ≠ 0 ∨ c.z ≠ (D.zs.length : Int) ∨ c.p ≠ (D.P : Int)) := by rw [eb]; rintro (h | h | h); exact h rfl; exact h ez; exact h ep
  have cN : ∀ hx, Blk hx h.size (chkA c da dc) 40 → cellH hx (Addr.add ⟨h.size, 0, none⟩ 0) = some (.int .u32 c.num) := fun hx bx => by rw [add_mk, cellH_blk bx]; rfl
  refine ld_of (c := .int .u32) c.num (cN _ b2) (call_of (where_ok o c.num oc.num h2 r2) ?_)
  rintro v h' ⟨rfl, hh⟩; subst h'
  refine ⟨whereS D c.num, rfl, ?_⟩
  have r2t := PRep.lay r n02
  refine call_of (reset_ok o (whereS D c.num) h2 r2t) ?_
  rintro v h3 ⟨rfl, ac3⟩
  refine ⟨errV (D.reset (whereS D c.num)).2, rfl, errV_if _, ?_⟩
  obtain ⟨t3, r3, f3⟩ := ac3
  have hlow : ∀ q, h.size ≤ q → (lay t h.size (0, 0) q).1 ≠ k := fun q hq => by rw [lay_ge hq]; exact fun e => hk e.symm
  have b3 : Blk h3 h.size (chkA c da dc) 40 := f3.blk b2 (hlow _ (Nat.le_refl _))
  have A3 : Acted k t h b (D.reset (whereS D c.num)).1 h3 := Acted.before ⟨t3, r3, f3⟩ n02
  refine br_of (fun he => ld_of (c := .int .u32) c.num (cN _ b3) ?_) fun he => ?_
  · have he : (D.reset (whereS D c.num)).2 ≠ 0 := by simpa [errV_nil] using he
    have e : writeS D c = D.reset (whereS D c.num) := by unfold writeS; rw [if_neg hno, if_pos he]
    rw [wr]
    refine call_of (wrap_b _ c.num _ h3) ?_
    rintro v h4 ⟨l, hl, n4⟩
    refine ⟨v, rfl, ?_⟩
    unfold WriteP; rw [e]; exact actE A3 hl n4
  have he : (D.reset (whereS D c.num)).2 = 0 := by simpa [errV_nil] using he
  have e0 : writeS D c = if (appS (whereS D c.num) c.ses c.num (D.reset (whereS D c.num)).1 0 (chunks (manyN c.b) (bytesC c))).2 ≠ 0 then appS (whereS D c.num) c.ses c.num (D.reset (whereS D c.num)).1 0 (chunks (manyN c.b) (bytesC c)) else (appS (whereS D c.num) c.ses c.num (D.reset (whereS D c.num)).1 0 (chunks (manyN c.b) (bytesC c))).1.flush := by
    unfold writeS
    rw [if_neg hno, if_neg (fun h => h he), eb]
  have o3 := o.reset (whereS D c.num)
  have li3 : Lies h1 h3 la (manyN c.b) lc (bytesC c) := Lies.fr li f3 fun q hq _ => hlow q (by have := n1.size; omega)
  generalize (D.reset (whereS D c.num)).1 = D3 at *
  generalize hw : whereS D c.num = w at *
  have n03 : h.size ≤ h3.size := Nat.le_trans n02.size f3.size
  have t3h : ∀ q, h.size ≤ q → q < h2.size → (t3 q).1 ≠ k := fun q h1 h2' => by rw [f3.tags q h2']; exact hlow q h1
  have hcl := chunks_len (manyN c.b) (bytesC c)
  refine ⟨fun (s : Int) h' => ∃ i : Nat, s = i ∧ i ≤ manyN c.b ∧ ∃ D' t', PRep k t' h' b D' ∧ DevOk D' ∧ Fr (fun p => p.1 ≠ k) t3 h3 t' h' ∧ appS w c.ses c.num D3 0 (chunks (manyN c.b) (bytesC c)) = appS w c.ses c.num D' i ((chunks (manyN c.b) (bytesC c)).drop i), fun (s : Int) _ => ((manyN c.b : Int) - s).toNat, ⟨0, rfl, Nat.zero_le _, D3, t3, r3, o3, Fr.refl _ _ _, rfl⟩, ?_⟩
  rintro s j h4 ⟨i, rfl, hi, D4, t4, r4, o4, f4, e4⟩
  have t3h' : ∀ q, h.size ≤ q → q < h2.size → (t3 q).1 ≠ k := t3h
  have b4 : Blk h4 h.size (chkA c da dc) 40 := f4.blk b3 (t3h _ (Nat.le_refl _) b2.lt)
  have lb : ∀ q, h1.size ≤ q → q < h3.size → q < h2.size → (t3 q).1 ≠ k := fun q h1 _ h3 => t3h q (by have := n1.size; omega) h3
  have li4 : Lies h1 h4 la (manyN c.b) lc (bytesC c) := by
    obtain ⟨ba, bc, p1, p2, rest⟩ := li
    have q1 := p1.keep (h' := h3) fun g _ hg hb _ => f3.same g hb.lt (hlow g (by have := n1.size; omega))
    have q2 := p2.keep (h' := h3) fun g _ hg hb _ => f3.same g hb.lt (hlow g (by have := n1.size; omega))
    refine ⟨ba, bc, q1.keep fun g _ hg hb hgg => f4.same g hb.lt (t3h g (by have := n1.size; omega) (p1.blk_ge g hgg).2), q2.keep fun g _ hg hb hgg => f4.same g hb.lt (t3h g (by have := n1.size; omega) (p2.blk_ge g hgg).2), rest⟩
  have A4 : Acted k t h b D4 h4 := Acted.before (after f3 (after f4 (stays r4))) n02
  refine br_of (fun hlt => ?_) (fun hlt => ?_)
  · have hlt : (i : Int) < (manyN c.b : Int) := of_decide_eq_true hlt
    have hiL : i < manyN c.b := by omega
    have hiC : i < (chunks (manyN c.b) (bytesC c)).length := by omega
    have ez1 : IntKind.wrap .i64 ((i : Int) + 1) = ((i + 1 : Nat) : Int) := (by first | (rw [wr64 (by omega) (by omega)]; omega) | (simp only [IntKind.wrap_i64]; omega))
    have ei : IntKind.wrap .u32 (i : Int) = (i : Int) := by rw [wru32]; omega
    refine li4.rb.ld hiC hiL fun a' c' sb => ?_
    have hbl := h16 _ (List.getElem_mem hiC)
    refine ld_of (c := .int .u32) c.ses (by rw [add_mk, cellH_blk b4]; rfl) (ld_of (c := .int .u32) c.num (cN _ b4) ?_)
    rw [ei]
    have hho : HdOk (5, c.ses, (i : Int), c.num) := ⟨⟨(by first | omega | (dsimp only; omega) | (simp only []; omega)), (by first | omega | (dsimp only; omega) | (simp only []; omega))⟩, oc.ses, ⟨(by first | omega | (dsimp only; omega) | (simp only []; omega)), (by first | omega | (dsimp only; omega) | (simp only []; omega))⟩, oc.num⟩
    refine call_of (Head.bytes_ok (5, c.ses, (i : Int), c.num) hho a' c' (chunks (manyN c.b) (bytesC c))[i] h4 sb) ?_
    rintro v h5 ⟨a5, c5, rfl, g5, _⟩
    rw [pg_bytes c.ses c.num i hbl] at g5 ⊢
    refine ⟨((a5, (pg c.ses c.num i (chunks (manyN c.b) (bytesC c))[i]).length, c5), errV 0), rfl, ?_⟩
    have hpl : (pg c.ses c.num i (chunks (manyN c.b) (bytesC c))[i]).length = 33 := pageL_len _ hbl
    have n45 := g5.new
    have r5 := PRep.lay r4 n45
    have im5 : Im .u8 (lay t4 h4.size (0, 0)) h5 a5 (pg c.ses c.num i (chunks (manyN c.b) (bytesC c))[i]) := ⟨g5.ar, fun hx q hq => by have := g5.at_ hx q hq; rw [lay_ge (by omega)]⟩
    have edrop : (chunks (manyN c.b) (bytesC c)).drop i = (chunks (manyN c.b) (bytesC c))[i] :: (chunks (manyN c.b) (bytesC c)).drop (i + 1) := List.drop_eq_getElem_cons hiC
    rw [edrop] at e4
    generalize (chunks (manyN c.b) (bytesC c))[i] = bl at *
    refine cut_q (ts := [.sc .any]) (fun s h' => s = errV (D4.append w (pg c.ses c.num i bl)).2.2 ∧ ∃ t', PRep k t' h' b (D4.append w (pg c.ses c.num i bl)).1 ∧ Fr (fun p => p.1 ≠ k) t4 h4 t' h') ?_ ?_
    rotate_left
    · intro K hK
      refine ⟨errV_if 0, br_t rfl (call_of (append_ok o4 w a5 c5 (pg c.ses c.num i bl) h5 r5 (by omega) im5) ?_)⟩
      rintro v h6 ⟨rfl, t6, r6, f6⟩
      exact ⟨((D4.append w (pg c.ses c.num i bl)).2.1, errV (D4.append w (pg c.ses c.num i bl)).2.2), rfl, hK _ _ ⟨rfl, t6, r6, (Fr.lay n45 (0, 0)).trans f6⟩⟩
    rintro s h6 ⟨rfl, t6, r6, f6⟩ _
    have f36 := f4.trans f6
    have b6 : Blk h6 h.size (chkA c da dc) 40 := f36.blk b3 (t3h _ (Nat.le_refl _) b2.lt)
    refine ⟨errV_if _, br_of (fun he6 => ld_of (c := .int .u32) c.num (cN _ b6) ?_) fun he6 => ?_⟩
    · have he6 : (D4.append w (pg c.ses c.num i bl)).2.2 ≠ 0 := by simpa [errV_nil] using he6
      have e5 : appS w c.ses c.num D4 i (bl :: (chunks (manyN c.b) (bytesC c)).drop (i + 1)) = ((D4.append w (pg c.ses c.num i bl)).1, (D4.append w (pg c.ses c.num i bl)).2.2) := by
        rw [appS, if_pos he6]
      rw [e5] at e4
      rw [e4, if_pos he6] at e0
      rw [wr]
      refine call_of (wrap_b _ c.num _ h6) ?_
      rintro v h7 ⟨l, hl, n7⟩
      refine ⟨v, rfl, ?_⟩
      unfold WriteP
      rw [e0]
      exact actE (Acted.before (after f3 (after f36 (stays r6))) n02) hl n7
    · have he6 : (D4.append w (pg c.ses c.num i bl)).2.2 = 0 := by simpa [errV_nil] using he6
      have e5 : appS w c.ses c.num D4 i (bl :: (chunks (manyN c.b) (bytesC c)).drop (i + 1)) = appS w c.ses c.num (D4.append w (pg c.ses c.num i bl)).1 (i + 1) ((chunks (manyN c.b) (bytesC c)).drop (i + 1)) := by
        rw [appS, if_neg (fun h => h he6)]
      rw [ez1]
      refine ⟨⟨i + 1, rfl, hiL, (D4.append w (pg c.ses c.num i bl)).1, t6, r6, o4.append w (fun x hx => ?_), f36, by rw [e4, e5]⟩, (by first | omega | (dsimp only; omega) | (simp only []; omega))⟩
      exact pageL_byt hho sb.byt x hx
  · have hlt : ¬ (i : Int) < (manyN c.b : Int) := of_decide_eq_false hlt
    have : i = manyN c.b := by omega
    subst this
    rw [List.drop_of_length_le (by omega)] at e4
    have e5 : appS w c.ses c.num D4 (manyN c.b) [] = (D4, 0) := rfl
    rw [e5] at e4
    rw [e4, if_neg (fun h => h rfl)] at e0
    refine ld_of (c := .int .u32) c.num (cN _ b4) (call_of (flush_ok o4 h4 r4) ?_)
    rintro v h5 ⟨rfl, t5, r5, f5⟩
    have f35 := f4.trans f5
    have b5 : Blk h5 h.size (chkA c da dc) 40 := f35.blk b3 (t3h _ (Nat.le_refl _) b2.lt)
    refine ⟨errV D4.flush.2, rfl, cN _ b5, ?_⟩
    rw [wr]
    refine call_of (wrap_b _ c.num _ h5) ?_
    rintro v h6 ⟨l, hl, n6⟩
    refine ⟨v, rfl, cN _ (b5.new n6), ?_⟩
    unfold WriteP
    rw [e0]
    exact actE (Acted.before (after f3 (after f35 (stays r5))) n02) hl n6
end Go.Proofs.YthimfpkkdhpceaaGreatDoor.Slt
/-
  The contracts of package slot: pages, Read.
-/
namespace Go.Proofs.YthimfpkkdhpceaaGreatDoor.Slt
open Go.Pl Go.Proofs.YthimfpkkdhpceaaGreatDoor.W Go.Proofs.YthimfpkkdhpceaaGreatDoor.Byts Go.Proofs.YthimfpkkdhpceaaGreatDoor.Four Go.Proofs.YthimfpkkdhpceaaGreatDoor.Adl Go.Proofs.YthimfpkkdhpceaaGreatDoor.As Go.Proofs.YthimfpkkdhpceaaGreatDoor.Err Go.Proofs.YthimfpkkdhpceaaGreatDoor.Head Go.Proofs.YthimfpkkdhpceaaGreatDoor.HdP Go.Proofs.YthimfpkkdhpceaaGreatDoor.Geo Go.Proofs.YthimfpkkdhpceaaGreatDoor.Zns Go.Proofs.YthimfpkkdhpceaaGreatDoor.ZnsP Go.Proofs.YthimfpkkdhpceaaGreatDoor.Ck Go.Proofs.YthimfpkkdhpceaaGreatDoor.Rng
/- ERRORS THAT STAY. -/
theorem errs {h h' : Heap} {g n : Nat} {arr : Array Value} {T : TypeId} (hb : Blk h g arr T) (hT : T ≠ 147) (o : Only g h h') {l : List (ByteArray × Int)} {v : Value} {c : Int} (e : ErrB n h v l c) : ErrB n h' v l c := e.keep fun b arr' hb' => o.same b fun e => by
  subst e
  have h1 : h[b]? = _ := hb
  rw [show h[b]? = _ from hb'] at h1
  injection h1 with h1
  injection h1 with _ h1
  exact hT h1.symm
theorem errs_taken {n m : Nat} {h h' : Heap} (t : Taken n h h') {l : List (ByteArray × Int)} {v : Value} {c : Int} (e : ErrB m h v l c) : ErrB m h' v l c := e.keep fun _ _ hb => Tk_blk t hb
/- ROWS OF BYTES, IN AN OWN ROW. -/
/-- Rows of bytes in an own row, none of them in its block. -/
def RowsA (h : Heap) (base : Nat) (la : Option Addr) (lc : Nat) (l : List (List Int)) : Prop :=
  ∃ vs, OwnH h base 68 1 la l.length lc vs ∧ ∀ (j : Nat) (bs : List Int), l[j]? = some bs → ∃ a' c', vs[j]? = some (.slice a' bs.length c') ∧ Sl8 h a' c' bs ∧ (bs ≠ [] → ∀ g, blkOf a' = some g → base ≤ g ∧ blkOf la ≠ some g)
theorem RowsA.rb {h : Heap} {base : Nat} {la : Option Addr} {lc : Nat} {l : List (List Int)} (r : RowsA h base la lc l) : RB h la l := fun i bs hi => by
  obtain ⟨vs, o, hr⟩ := r
  obtain ⟨a', c', e, s, _⟩ := hr i bs hi
  obtain ⟨g, e1, _, hc⟩ := o.cell e
  exact ⟨g, 0, a', c', e1, (o.blk_ge g (by rw [e1]; rfl)).2, by rw [Nat.zero_add]; exact hc, s⟩
theorem RowsA.nil (h : Heap) (base : Nat) : RowsA h base none 0 [] := ⟨[], OwnH.nil _ _ _ _, fun j bs hj => by simp at hj⟩
theorem RowsA.new {h h' : Heap} {base : Nat} {la : Option Addr} {lc : Nat} {l : List (List Int)} (r : RowsA h base la lc l) (n : New h h') : RowsA h' base la lc l := by
  obtain ⟨vs, o, hr⟩ := r
  exact ⟨vs, o.grow n, fun j bs hj => by
    obtain ⟨a', c', e, s, hne⟩ := hr j bs hj
    exact ⟨a', c', e, s.new n, hne⟩⟩
theorem sl_upd {h h' : Heap} {a : Option Addr} {c : Nat} {xs : List Int} {r : Option Nat} (s : Sl8 h a c xs) (u : UpdO r h h') (hne : xs ≠ [] → ∀ g, blkOf a = some g → r ≠ some g) : Sl8 h' a c xs := by
  refine ⟨fun i x hx => ?_, s.le, s.cap, s.nil, s.byt⟩
  obtain ⟨b, o, e, hl, hc⟩ := s.ar i x hx
  have hxs : xs ≠ [] := fun e => by subst e; simp at hx
  exact ⟨b, o, e, Nat.lt_of_lt_of_le hl u.size, by rw [cellH_same (u.same b hl fun e' => hne hxs b (by rw [e]; rfl) e'.symm)]; exact hc⟩
theorem RowsA.only {h h' : Heap} {base b : Nat} {la : Option Addr} {lc : Nat} {l : List (List Int)} (r : RowsA h base la lc l) (o : Only b h h') (hb : b < base) : RowsA h' base la lc l := by
  obtain ⟨vs, ow, hv⟩ := r
  exact ⟨vs, ow.keep fun g _ hg _ _ => o.same g (by omega), fun j bs hj => by
    obtain ⟨a', c', e, s, hne⟩ := hv j bs hj
    exact ⟨a', c', e, sl_upd (r := some b) s ⟨Nat.le_of_eq o.size.symm, fun k _ hk => o.same k fun e => hk (by rw [e])⟩ fun hx g hg e => by
      have := (hne hx g hg).1
      injection e with e; omega, hne⟩⟩
theorem RowsA.push {h : Heap} {base : Nat} {la : Option Addr} {lc : Nat} {l : List (List Int)} (r : RowsA h base la lc l) {bs : List Int} {a1 : Option Addr} {c1 : Nat} (s1 : Sl8 h a1 c1 bs) (hn1 : bs ≠ [] → ∀ g, blkOf a1 = some g → base ≤ g ∧ blkOf la ≠ some g) (hl : l.length ≤ 1000) (hb : base ≤ h.size)
    {F : Option Addr → Nat → Nat → Heap → Prop} (hF : ∀ a' c' h', RowsA h' base a' c' (l ++ [bs]) → UpdO (blkOf la) h h' → (∀ g, blkOf la = some g → base ≤ g) → F a' (l.length + 1) c' h') :
    newW (.cells #[.slice a1 bs.length c1] 68) (fun q h' => apW Tryz.prog #[67, 67] #[.slice la l.length lc, .slice (some q) 1 1] F h') h := by
  obtain ⟨vs, o, hr⟩ := r
  have hvl : vs.length = l.length := by have := o.1; omega
  refine new_of fun h1 b1 n1 s1' => ?_
  have o1 := o.grow n1
  have g1 : Grow h1 (blkOf la) h1 68 1 la l.length lc vs := Grow.start (.inl (o1.low (Nat.zero_le _)))
  refine ap_row ap88 g1.row [.slice a1 bs.length c1] rfl (fun q u hu => ?_) (fun u hu => by rw [List.mem_singleton.1 hu]; rfl) (by simp only [maxLen]; omega) (by omega) fun a' c' h' rr w ow => ?_
  · have hq' : q = 0 := by have := (List.getElem?_eq_some_iff.1 hu).1; simp at this; omega
    subst hq'
    rw [add_mk, cellH_blk b1]; exact hu
  · have u' := w.upd
    have ge : ∀ g, blkOf la = some g → base ≤ g := fun g hg => (o.blk_ge g hg).1
    have go := g1.went rr w
    have o' := grow_up (base := base) go (ow (by omega)) (Nat.le_trans hb n1.size) ge
    have ne : ∀ (x : Option Addr) (c : Nat) (ys : List Int), Sl8 h x c ys → (ys ≠ [] → ∀ g, blkOf x = some g → base ≤ g ∧ blkOf la ≠ some g) → Sl8 h' x c ys ∧ (ys ≠ [] → ∀ g, blkOf x = some g → base ≤ g ∧ blkOf a' ≠ some g) := fun x c ys sx hx => by
      refine ⟨sl_upd (sx.new n1) u' fun hy g hg => (hx hy g hg).2, fun hy g hg => ⟨(hx hy g hg).1, fun e => ?_⟩⟩
      rcases w.at_ with e2 | ⟨g', e2, h3, _⟩
      · rw [e] at e2; exact (hx hy g hg).2 e2.symm
      · rw [e] at e2; injection e2 with e2
        have hlt : g < h.size := by
          cases ys with
          | nil => exact (hy rfl).elim
          | cons y ys =>
            obtain ⟨b', _, e4, hl4, _⟩ := sx.ar 0 y rfl
            rw [e4] at hg; injection hg with hg; change b' = g at hg; omega
        have := n1.size
        omega
    refine hF a' c' h' ⟨vs ++ [.slice a1 bs.length c1], by rw [List.length_append]; exact o', fun j ys hj => ?_⟩ ⟨Nat.le_trans n1.size u'.size, fun k hk hne => (u'.same k (Nat.lt_of_lt_of_le hk n1.size) hne).trans (n1.same k hk)⟩ ge
    by_cases hjl : j < l.length
    · rw [List.getElem?_append_left hjl] at hj
      obtain ⟨a2, c2, e2, s2, hn2⟩ := hr j ys hj
      obtain ⟨s3, hn3⟩ := ne a2 c2 ys s2 hn2
      exact ⟨a2, c2, by rw [List.getElem?_append_left (by omega)]; exact e2, s3, hn3⟩
    · rw [List.getElem?_append_right (by omega)] at hj
      have : j - l.length = 0 := by have := (List.getElem?_eq_some_iff.1 hj).1; simp at this; omega
      rw [this] at hj
      injection hj with hj; subst hj
      have : j = l.length := by omega
      subst this
      obtain ⟨s3, hn3⟩ := ne a1 c1 bs s1 hn1
      exact ⟨a1, c1, by rw [← hvl]; simp, s3, hn3⟩
/- GOING THROUGH A ZONE'S PAGES. -/
theorem pages_ok' (b : Nat) (zone : Int) (h : Heap) :
    CallsH Tryz.prog 53 [ptr b, .int .i64 zone] h fun v h' => v = .func (.func 92) #[] #[.pointer (some ⟨h.size, 0, none⟩), .pointer (some ⟨h.size + 1, 0, none⟩)] ∧ Blk h' h.size #[ptr b] 25 ∧ Blk h' (h.size + 1) #[.int .i64 zone] 3 ∧ New h h' ∧ h'.size = h.size + 2 := by
  refine fun_ok Geo.hm' Tryz.func53 (by kernel_rfl) (F53_eq _ _ _ h) ?_
  unfold F53
  exact new_of fun h1 b1 n1 s1 => new_of fun h2 b2 n2 s2 => by
    rw [s1] at b2 ⊢
    exact ⟨rfl, b1.new n2, b2, n1.trans n2, by omega⟩
structure Sees (k : Nat) (h : Heap) (c0 c1 b : Nat) (zone : Int) (D : Dev) : Prop where
  ptr : cellH h ⟨c0, 0, none⟩ = some (ptr b)
  zone : cellH h ⟨c1, 0, none⟩ = some (.int .i64 zone)
  dev : ∃ t, PRep k t h b D
abbrev HbT : List Ty := [.agg [.int .u8, .int .u32, .int .u32, .int .u32], .sc .slice]
theorem range_pages {Inner : Nat → LoopO → TT HbT → (Bool → Heap → Prop) → Heap → Prop} {E : Nat → LoopO → Heap → Prop} {h : Heap} {k c0 c1 b : Nat} {zone : Int} {D : Dev} (o : DevOk D) (hdn : D.down = false) (hth : D.there zone = true)
    (J : Heap → Nat → Nat → Heap → Prop) (X : Heap → Nat → Heap → Prop)
    (j0 : ∀ hq l, New h hq → h.size ≤ l → l < hq.size → J hq l 0 hq)
    (jo : ∀ hq l i h1 h2, J hq l i h1 → Only l h1 h2 → J hq l i h2)
    (xo : ∀ hq l h1 h2, X hq l h1 → Only l h1 h2 → X hq l h2)
    (jn : ∀ hq l i h1 h2, J hq l i h1 → New h1 h2 → J hq l i h2)
    (jc : ∀ hq l i h1, J hq l i h1 → Sees k h1 c0 c1 b zone D)
    (hI : ∀ hq l o R i p hp h1 ba bc, (D.at_ zone).pages[i]? = some p → (readF p).2.2 = 0 → J hq l i hp → New hp h1 → h1[l]? = some (LoopO.rdy o) → Sl8 h1 ba bc (readF p).2.1 → ((readF p).2.1 ≠ [] → ∀ g, blkOf ba = some g → hp.size ≤ g) →
      (∀ h2, J hq l (i + 1) h2 → roundEnd l (LoopO.rdy o) (R true) h2) → (∀ h2, X hq l h2 → roundEnd l (LoopO.dn o (.exit 1)) (R false) h2) → Inner l o ((readF p).1, (ba, (readF p).2.1.length, bc)) R h1)
    (hE : ∀ hq l o i h3, J hq l i h3 → ((D.at_ zone).pages.length ≤ i ∨ ∃ p, (D.at_ zone).pages[i]? = some p ∧ (readF p).2.2 ≠ 0) → h3[l]? = some (LoopO.rdy o) → E l o h3)
    (hX : ∀ hq l o h3, X hq l h3 → h3[l]? = some (LoopO.dn o (.exit 1)) → E l o h3) :
    rangeW Tryz.prog 92 [] [.pointer (some ⟨c0, 0, none⟩), .pointer (some ⟨c1, 0, none⟩)] HbT Inner E h := by
  rintro l lo ho hl0 hy
  have nb : New h ((h.push (.deferred (some []))).push lo.rdy) := (New.push _ _).trans (New.push _ _)
  have hrdy : ((h.push (.deferred (some []))).push lo.rdy)[h.size + 1]? = some lo.rdy := by rw [Array.getElem?_push, if_pos (by simp)]
  have hsz : ((h.push (.deferred (some []))).push lo.rdy).size = h.size + 2 := by simp
  rw [← hl0] at hrdy
  generalize (h.push (.deferred (some []))).push lo.rdy = hb0 at *
  refine fun_ok Geo.hm' Tryz.func92 (by kernel_rfl) (F92_eq _ _ _ _ hb0) ?_
  unfold F92
  have J0 := j0 hb0 l nb (by omega) (by omega)
  have s0 := jc _ _ _ _ J0
  obtain ⟨t0, r0⟩ := s0.dev
  refine ld_of (c := .ptr) (some ⟨b, 0, none⟩) s0.ptr (ld_of (c := .int .i64) zone s0.zone (call_of (point_ok zone hb0 r0) ?_))
  rintro v h1 ⟨rfl, n1⟩
  have r1 : h1[l]? = some lo.rdy := (n1.same l (by omega)).trans hrdy
  have hpt : D.point zone ≤ 16 := by have := (o.at_ zone).most; have := o.pages; unfold Dev.point; omega
  refine ⟨(D.point zone : Int), rfl, fun (s : Int) h' => ∃ i : Nat, s = i ∧ i ≤ D.point zone ∧ J hb0 l i h' ∧ h'[l]? = some lo.rdy, fun (s : Int) _ => ((D.point zone : Int) - s).toNat, ⟨0, rfl, Nat.zero_le _, jn _ _ _ _ _ J0 n1, r1⟩, ?_⟩
  rintro s j h2 ⟨i, rfl, hi, J2, r2⟩
  refine br_of (fun hlt => ?_) (fun hlt => ?_)
  · have hlt : (i : Int) < (D.point zone : Int) := of_decide_eq_true hlt
    have hiP : i < (D.at_ zone).pages.length := by unfold Dev.point at hlt; omega
    have s2 := jc _ _ _ _ J2
    obtain ⟨t2, d2⟩ := s2.dev
    have hl2 := (Array.getElem?_eq_some_iff.1 r2).1
    refine ld_of (c := .ptr) (some ⟨b, 0, none⟩) s2.ptr (ld_of (c := .int .i64) zone s2.zone (call_of (ZnsP.read_ok o zone (i : Int) h2 d2) ?_))
    rintro v h3 ⟨a3, c3, rfl, g3⟩
    have hrd : D.read zone (i : Int) = if ((D.at_ zone).pages.getD i []).length = 0 then ([], 6) else ((D.at_ zone).pages.getD i [], 0) := by
      have hmo := (o.at_ zone).most
      rw [readE hdn (by rw [hth]; rintro (h | h | h); cases h; omega; omega), if_neg (by omega), Int.toNat_natCast]
    have hget : (D.at_ zone).pages[i]? = some (D.at_ zone).pages[i] := List.getElem?_eq_getElem hiP
    have hgd : (D.at_ zone).pages.getD i [] = (D.at_ zone).pages[i] := by rw [List.getD_eq_getElem?_getD, hget]; rfl
    rw [hgd] at hrd
    generalize hpp : (D.at_ zone).pages[i] = p at *
    have hbyt : Byt p := ((o.at_ zone).page p (by rw [← hpp]; exact List.getElem_mem hiP)).1
    have J3 := jn _ _ _ _ _ J2 g3.new
    have r3 : h3[l]? = some lo.rdy := (g3.new.same l hl2).trans r2
    by_cases hp0 : p.length = 0
    · rw [if_pos hp0] at hrd
      rw [hrd]
      refine ⟨((a3, 0, c3), errV 6), rfl, errV_if 6, br_t rfl (hE hb0 l lo i h3 J3 (.inr ⟨p, hget, ?_⟩) r3)⟩
      unfold readF; rw [if_pos (by omega)]; decide
    rw [if_neg hp0] at hrd
    rw [hrd] at g3 ⊢
    refine ⟨((a3, p.length, c3), errV 0), rfl, errV_if 0, br_f rfl (call_of (Head.read_ok a3 c3 p h3 (Sl8.got g3 hbyt)) ?_)⟩
    rintro v h4 ⟨a4, c4, rfl, g4⟩
    refine ⟨((readF p).1, (a4, (readF p).2.1.length, c4), errV (readF p).2.2), rfl, new_stL (by rw [zeroH]; rfl) fun h5 b5 n5 s5 => ⟨errV_if _, ?_⟩⟩
    have b5 : Blk h5 h4.size (hdA (readF p).1) 90 := b5
    have n25 := (g3.new.trans g4.new).trans n5
    have J5 := jn _ _ _ _ _ J2 n25
    have r5 : h5[l]? = some lo.rdy := (n25.same l hl2).trans r2
    refine br_of (fun he => ?_) fun he => ?_
    · have he : (readF p).2.2 ≠ 0 := by simpa [errV_nil] using he
      exact hE hb0 l lo i h5 J5 (.inr ⟨p, hget, he⟩) r5
    have he : (readF p).2.2 = 0 := by simpa [errV_nil] using he
    refine ldAgg_blk (readF p).1 b5 ⟨rfl, rfl, rfl, rfl, trivial⟩ ?_
    have hY := hy ((readF p).1, (a4, (readF p).2.1.length, c4)) h5 (fun t h' => (t = true ∧ J hb0 l (i + 1) h' ∧ h'[l]? = some lo.rdy) ∨ (t = false ∧ X hb0 l h' ∧ h'[l]? = some (lo.dn (.exit 1)))) r5
      (hI hb0 l lo _ i p h2 h5 a4 c4 hget he J2 n25 r5 ((Sl8.got g4 (Slt.readF_byt hbyt)).new n5) (fun hx g hg => by have := g4.at_ hx g hg; have := g3.new.size; omega)
        (fun h6 J6 h7 o7 r7 => .inl ⟨rfl, jo _ _ _ _ _ J6 o7, r7⟩) (fun h6 X6 h7 o7 r7 => .inr ⟨rfl, xo _ _ _ _ X6 o7, r7⟩))
    refine Ck.yield_of hY ?_
    rintro t h6 (⟨rfl, J6, r6⟩ | ⟨rfl, X6, r6⟩)
    · have ez : IntKind.wrap .i64 ((i : Int) + 1) = ((i + 1 : Nat) : Int) := (by first | (rw [wr64 (by omega) (by omega)]; omega) | (simp only [IntKind.wrap_i64]; omega))
      refine ⟨true, rfl, br_f rfl ?_⟩
      rw [ez]
      exact ⟨⟨i + 1, rfl, by omega, J6, r6⟩, (by first | omega | (dsimp only; omega) | (simp only []; omega))⟩
    · exact ⟨false, rfl, br_t rfl (hX hb0 l lo h6 X6 r6)⟩
  · have hlt : ¬ (i : Int) < (D.point zone : Int) := of_decide_eq_false hlt
    exact hE hb0 l lo i h2 J2 (.inl (by unfold Dev.point at hlt; omega)) r2
end Go.Proofs.YthimfpkkdhpceaaGreatDoor.Slt
/-
  The contracts of package slot: Read, Newest.
-/
namespace Go.Proofs.YthimfpkkdhpceaaGreatDoor.Slt
open Go.Pl Go.Proofs.YthimfpkkdhpceaaGreatDoor.W Go.Proofs.YthimfpkkdhpceaaGreatDoor.Byts Go.Proofs.YthimfpkkdhpceaaGreatDoor.Four Go.Proofs.YthimfpkkdhpceaaGreatDoor.Adl Go.Proofs.YthimfpkkdhpceaaGreatDoor.As Go.Proofs.YthimfpkkdhpceaaGreatDoor.Err Go.Proofs.YthimfpkkdhpceaaGreatDoor.Head Go.Proofs.YthimfpkkdhpceaaGreatDoor.HdP Go.Proofs.YthimfpkkdhpceaaGreatDoor.Geo Go.Proofs.YthimfpkkdhpceaaGreatDoor.Zns Go.Proofs.YthimfpkkdhpceaaGreatDoor.ZnsP Go.Proofs.YthimfpkkdhpceaaGreatDoor.Ck Go.Proofs.YthimfpkkdhpceaaGreatDoor.Rng
theorem not_t {b : Bool} (h : (!b) = true) : b = false := by cases b <;> simp_all
theorem not_f {b : Bool} (h : (!b) = false) : b = true := by cases b <;> simp_all
/-- On the way: the blocks so far are in the variable B, the first head in A. -/
structure JV (B A : Nat) (hq : Heap) (l : Nat) (pre : List (List Int)) (y : Hd) (h' : Heap) : Prop where
  sizes : hq.size ≤ h'.size
  same : ∀ b, b < hq.size → b ≠ B → b ≠ A → b ≠ l → h'[b]? = hq[b]?
  lB : B < l
  lA : A < l
  lq : l < hq.size
  BA : B ≠ A
  var : ∃ la lc, Blk h' B #[.slice la pre.length lc] 67 ∧ RowsA h' hq.size la lc pre
  fst : Blk h' A (hdA y) 90
theorem JV.only {B A l : Nat} {hq h1 h2 : Heap} {pre : List (List Int)} {y : Hd} (j : JV B A hq l pre y h1) (o : Only l h1 h2) : JV B A hq l pre y h2 := by
  obtain ⟨la, lc, hb, rw'⟩ := j.var
  have h3 := j.lB; have h4 := j.lA; have h5 := j.lq
  exact ⟨by rw [o.size]; exact j.sizes, fun b hb h1 h2 h3 => (o.same b h3).trans (j.same b hb h1 h2 h3), h3, h4, h5, j.BA, ⟨la, lc, hb.only o (by omega), rw'.only o h5⟩, j.fst.only o (by omega)⟩
theorem JV.new {B A l : Nat} {hq h1 h2 : Heap} {pre : List (List Int)} {y : Hd} (j : JV B A hq l pre y h1) (o : New h1 h2) : JV B A hq l pre y h2 := by
  obtain ⟨la, lc, hb, rw'⟩ := j.var
  have hs := j.sizes
  exact ⟨Nat.le_trans hs o.size, fun b hb h1 h2 h3 => (o.same b (by omega)).trans (j.same b hb h1 h2 h3), j.lB, j.lA, j.lq, j.BA, ⟨la, lc, hb.new o, rw'.new o⟩, j.fst.new o⟩
theorem JV.setA {B A l : Nat} {hq h1 : Heap} {pre : List (List Int)} {y : Hd} (j : JV B A hq l pre y h1) (z : Hd) {F : Heap → Prop} (hF : ∀ h2, JV B A hq l pre z h2 → Only A h1 h2 → F h2) :
    stLW ⟨A, 0, none⟩ [.int .u8 z.1, .int .u32 z.2.1, .int .u32 z.2.2.1, .int .u32 z.2.2.2] F h1 := by
  obtain ⟨la, lc, hb, rw'⟩ := j.var
  refine stL_blk j.fst (Nat.le_refl 4) fun h2 b2 o2 => hF h2 ⟨by rw [o2.size]; exact j.sizes, fun b hb h1 h2 h3 => (o2.same b h2).trans (j.same b hb h1 h2 h3), j.lB, j.lA, j.lq, j.BA, ⟨la, lc, hb.only o2 j.BA, rw'.only o2 (by have := j.lA; have := j.lq; omega)⟩, ?_⟩ o2
  rw [setsA_all (by rfl)] at b2
  exact b2
theorem JV.push {B A l : Nat} {hq h1 : Heap} {pre : List (List Int)} {y : Hd} {la : Option Addr} {lc : Nat} (j : JV B A hq l pre y h1) (hb : Blk h1 B #[.slice la pre.length lc] 67) (rr : RowsA h1 hq.size la lc pre) {bs : List Int} {a1 : Option Addr} {c1 : Nat} (s1 : Sl8 h1 a1 c1 bs) (hn1 : bs ≠ [] → ∀ g, blkOf a1 = some g → hq.size ≤ g ∧ blkOf la ≠ some g) (hl : pre.length ≤ 1000) {F : Heap → Prop}
    (hF : ∀ h2, JV B A hq l (pre ++ [bs]) y h2 → F h2) :
    newW (.cells #[.slice a1 bs.length c1] 68) (fun q h' => apW Tryz.prog #[67, 67] #[.slice la pre.length lc, .slice (some q) 1 1] (fun b64 n65 c66 h67 => stW ⟨B, 0, none⟩ (.slice b64 n65 c66) F h67) h') h1 := by
  have h3 := j.lB; have h4 := j.lA; have h5 := j.lq; have hs := j.sizes
  refine rr.push s1 hn1 hl hs fun a' c' h2 r2 u2 ge => ?_
  have low : ∀ b, b < hq.size → h2[b]? = h1[b]? := fun b hb => u2.same b (by omega) fun e => by have := ge b e.symm; omega
  have b2 : Blk h2 B #[.slice la pre.length lc] 67 := (low B (by omega)).trans hb
  have f2 : Blk h2 A (hdA y) 90 := (low A (by omega)).trans j.fst
  refine st_blk b2 (by simp) fun h6 b6 o6 => hF h6 ⟨by rw [o6.size]; have := u2.size; omega, fun b hb h1 h2 h3 => by rw [o6.same b h1, low b hb, j.same b hb h1 h2 h3], h3, h4, h5, j.BA, ⟨a', c', ?_, r2.only o6 (by omega)⟩, f2.only o6 (Ne.symm j.BA)⟩
  have e : (pre ++ [bs]).length = pre.length + 1 := by simp
  rw [e]; exact b6
theorem put_taken {h1 : Heap} {b n : Nat} {arr : Array Value} {T : TypeId} {c : Chk} {da : Option Addr} {dc : Nat} {K : Value → Heap → Prop} {e : Value} (bb : Blk h1 b arr T) (hs : arr.size = 7) (hK : ∀ h2 h', Blk h2 b (chkA c da dc) T → Only b h1 h2 → Taken n h2 h' → K (.tuple #[chkV c da dc, e]) h') :
    stLW ⟨b, 0, none⟩ [.int .u32 c.num, .int .u32 c.ses, .int .u32 c.seq, .int .i64 c.z, .int .i64 c.p, .int .i64 c.b, .slice da c.dir.length dc] (fun h4 => ∀ h5, Taken n h4 h5 → ldAggW ChkY ⟨b, 0, none⟩ (fun (x5 : ChkC) => K (outC x5 e) h5) h5) h1 := by
  refine stL_blk bb (by rw [hs]; exact Nat.le_refl 7) fun h2 b2 o2 h3 t3 => ?_
  rw [setsA_all (by rw [hs]; rfl)] at b2
  have b2 : Blk h2 b (chkA c da dc) T := b2
  have b3 : Blk h3 b (chkA c da dc) T := (Tk_blk t3 b2).trans b2
  exact ldChk (c := c) (da := da) (dc := dc) b3 (hK h2 h3 b2 o2 t3)
def ReadSP (D : Dev) (zone : Int) (h : Heap) (v : Value) (h' : Heap) : Prop := ∃ da dc e l, v = .tuple #[chkV (readS D zone).1 da dc, e] ∧ ErrB h.size h' e l (readS D zone).2 ∧ OwnH h' h.size 35 1 da (readS D zone).1.dir.length dc ((readS D zone).1.dir.map (Value.int .u32)) ∧ New h h'
theorem zeroBB : zeroC Tryz.prog 67 = #[.slice none 0 0] := by kernel_rfl
theorem first_ok {P : List (List Int)} {i : Nat} {p : List Int} (hp : P[i]? = some p) (h0 : i = 0) : firstS P = (readF p).1 := by
  subst h0
  cases P with
  | nil => simp at hp
  | cons q P => simp at hp; subst hp; rfl
theorem sread_ok {k b : Nat} {t : Tags} {D : Dev} (o : DevOk D) (zone : Int) (h : Heap) (r : PRep k t h b D) :
    CallsH Tryz.prog 17 [ptr b, .int .i64 zone] h (ReadSP D zone h) := by
  refine fun_ok Geo.hm' Tryz.func17 (by kernel_rfl) (F17_eq _ _ _ h) ?_
  unfold F17
  have hzs := o.zones
  refine new_of fun h1 b1 n1 s1 => ?_
  rw [zeroK] at b1
  have r1 := r.new n1
  -- what there is none of
  have err : ∀ (e : Int) (hx : Heap), e ≠ 0 → readS D zone = (ck0, e) → ∀ h2 h', New h hx → Blk hx h.size (chkA ck0 none 0) 40 → Only h.size hx h2 → Taken h.size h2 h' → ReadSP D zone h (.tuple #[chkV ck0 none 0, .iface 31 (.int .i64 e)]) h' := by
    intro e hx he hr h2 h' nx _ o2 t3
    unfold ReadSP
    rw [hr]
    refine ⟨none, 0, errV e, [], by rw [errV_ne he], rfl, OwnH.nil _ _ _ _, ⟨by rw [t3.size, o2.size]; exact nx.size, fun q hq => ?_⟩⟩
    rw [Tk_low t3 hq, o2.same q (by omega), nx.same q hq]
  refine cut_q (ts := [.sc .any]) (fun s h' => h' = h1 ∧ D.down = false ∧ ¬ ((D.zs.length : Int) < 2 ∨ zone < (D.zs.length : Int) - 2 ∨ zone ≥ (D.zs.length : Int))) ?_ ?_
  rotate_left
  · intro K hK
    refine call_of (down_ok h1 r1) ?_
    rintro v h' ⟨rfl, hh⟩; subst h'
    refine ⟨D.down, rfl, br_of (fun hd => ?_) fun hd => call_of (zones_ok h1 r1) ?_⟩
    · exact put_taken (K := ReadSP D zone h) (c := ck0) (da := none) (dc := 0) b1 rfl fun h2 h' b2 o2 t2 => err 7 h1 (by decide) (by unfold readS; rw [if_pos hd]) h2 h' n1 b1 o2 t2
    have arg : ((D.zs.length : Int) < 2 ∨ zone < (D.zs.length : Int) - 2 ∨ zone ≥ (D.zs.length : Int)) → readS D zone = (ck0, 1) := fun h => by unfold readS; rw [if_neg (by rw [hd]; simp), if_pos h]
    rintro v h' ⟨rfl, hh⟩; subst h'
    refine ⟨(D.zs.length : Int), rfl, br_of (fun h2 => ?_) fun h2 => call_of (zones_ok h1 r1) ?_⟩
    · have h2 : (D.zs.length : Int) < 2 := of_decide_eq_true h2
      exact put_taken (K := ReadSP D zone h) (c := ck0) (da := none) (dc := 0) b1 rfl fun h2' h' b2 o2 t2 => err 1 h1 (by decide) (arg (.inl h2)) h2' h' n1 b1 o2 t2
    have h2 : ¬ (D.zs.length : Int) < 2 := of_decide_eq_false h2
    rintro v h' ⟨rfl, hh⟩; subst h'
    have ew : IntKind.wrap .i64 ((D.zs.length : Int) - 2) = (D.zs.length : Int) - 2 := wr64 (by omega) (by omega)
    refine ⟨(D.zs.length : Int), rfl, ?_⟩
    rw [ew]
    refine br_of (fun h3 => ?_) fun h3 => call_of (zones_ok h1 r1) ?_
    · have h3 : zone < (D.zs.length : Int) - 2 := of_decide_eq_true h3
      exact put_taken (K := ReadSP D zone h) (c := ck0) (da := none) (dc := 0) b1 rfl fun h2' h' b2 o2 t2 => err 1 h1 (by decide) (arg (.inr (.inl h3))) h2' h' n1 b1 o2 t2
    have h3 : ¬ zone < (D.zs.length : Int) - 2 := of_decide_eq_false h3
    rintro v h' ⟨rfl, hh⟩; subst h'
    refine ⟨(D.zs.length : Int), rfl, br_of (fun h4 => ?_) fun h4 => hK _ _ ⟨rfl, hd, ?_⟩⟩
    · have h4 : zone ≥ (D.zs.length : Int) := of_decide_eq_true h4
      exact put_taken (K := ReadSP D zone h) (c := ck0) (da := none) (dc := 0) b1 rfl fun h2' h' b2 o2 t2 => err 1 h1 (by decide) (arg (.inr (.inr h4))) h2' h' n1 b1 o2 t2
    · have h4 : ¬ zone ≥ (D.zs.length : Int) := of_decide_eq_false h4
      omega
  rintro s25 h' ⟨hh, hdn, hzn⟩ _; subst h'
  have hth : D.there zone = true := decide_eq_true (by omega)
  refine new_of fun h2 b2 n2 s2 => new_of fun h3 b3 n3 s3 => ?_
  rw [zeroBB] at b2
  rw [zeroH] at b3
  have n03 := (n1.trans n2).trans n3
  have b13 := (b1.new n2).new n3
  have b23 := b2.new n3
  generalize hP : (D.at_ zone).pages = P at *
  have hPlen : P.length ≤ 16 := by rw [← hP]; have := (o.at_ zone).most; have := o.pages; omega
  have hbyt : ∀ q ∈ P, Byt q := fun q hq => ((o.at_ zone).page q (by rw [hP]; exact hq)).1
  refine cut_q (ts := []) (fun _ h' => New h h' ∧ Blk h' h.size (chkA ck0 none 0) 40 ∧ (∃ la lc, Blk h' h1.size #[.slice la (heldS P).length lc] 67 ∧ RB h' la (heldS P)) ∧ Blk h' h2.size (hdA (firstS P)) 90 ∧ PRep k (lay t h.size (0, 0)) h' b D) ?_ ?_
  rotate_left
  · intro K hK
    refine call_of (pages_ok' b zone h3) ?_
    rintro v h4 ⟨rfl, bc0, bc1, n4, s4⟩
    refine ⟨_, rfl, ?_⟩
    have n04 := n03.trans n4
    have hs3 := n03.size
    have dev : ∀ hq l pre y hx, JV h1.size h2.size hq l pre y hx → New h4 hq → h4.size ≤ l → PRep k (lay t h.size (0, 0)) hx b D := fun hq l pre y hx j nq hl =>
      r.fr (S := fun _ => True) ⟨Nat.le_trans (n04.trans nq).size j.sizes, fun c hc => lay_lt hc, fun c hc _ => (j.same c (Nat.lt_of_lt_of_le hc (n04.trans nq).size) (by omega) (by omega) (by have := n04.size; omega)).trans ((n04.trans nq).same c hc)⟩ (fun _ _ => trivial) fun _ => trivial
    have fin : ∀ hq l hx, JV h1.size h2.size hq l (heldS P) (firstS P) hx → New h4 hq → h4.size ≤ l → K () hx := fun hq l hx j nq hl => by
      obtain ⟨la, lc, hb, rr⟩ := j.var
      refine hK _ _ ⟨⟨Nat.le_trans (n04.trans nq).size j.sizes, fun c hc => (j.same c (Nat.lt_of_lt_of_le hc (n04.trans nq).size) (by omega) (by omega) (by have := n04.size; omega)).trans ((n04.trans nq).same c hc)⟩, ?_, ⟨la, lc, hb, rr.rb⟩, j.fst, dev hq l _ _ hx j nq hl⟩
      exact (j.same h.size (by have := (n04.trans nq).size; have := nq.size; omega) (by omega) (by omega) (by omega)).trans ((b13.new n4).new nq)
    refine range_pages (k := k) (b := b) (c0 := h3.size) (c1 := h3.size + 1) (zone := zone) (D := D) o hdn hth
      (fun hq l i hx => (∃ pre y, pre.length = i ∧ heldS P = pre ++ colS (firstS P).2.1 (firstS P).2.2.2 i (P.drop i) ∧ (i = 0 → y = hdZ) ∧ (i ≠ 0 → y = firstS P) ∧ JV h1.size h2.size hq l pre y hx) ∧ New h4 hq ∧ h4.size ≤ l)
      (fun hq l hx => JV h1.size h2.size hq l (heldS P) (firstS P) hx ∧ New h4 hq ∧ h4.size ≤ l)
      (fun hq l nq hl hlq => ⟨⟨[], hdZ, rfl, rfl, fun _ => rfl, fun h => (h rfl).elim, ⟨Nat.le_refl _, fun _ _ _ _ _ => rfl, by omega, by omega, hlq, by omega, ⟨none, 0, (b23.new n4).new nq, RowsA.nil _ _⟩, (b3.new n4).new nq⟩⟩, nq, hl⟩)
      (fun hq l i hx hy j oo => by
        obtain ⟨⟨pre, y, e1, e2, e3, e4, j⟩, hr⟩ := j
        exact ⟨⟨pre, y, e1, e2, e3, e4, j.only oo⟩, hr⟩)
      (fun hq l hx hy ⟨j, hr⟩ oo => ⟨j.only oo, hr⟩)
      (fun hq l i hx hy j nn => by
        obtain ⟨⟨pre, y, e1, e2, e3, e4, j⟩, hr⟩ := j
        exact ⟨⟨pre, y, e1, e2, e3, e4, j.new nn⟩, hr⟩)
      (fun hq l i hx ⟨⟨pre, y, _, _, _, _, j⟩, nq, hl⟩ => ?_) ?_ ?_ ?_
    · have hq4 := nq.size
      refine ⟨by rw [cellH_blk ((j.same h3.size (by omega) (by omega) (by omega) (by omega)).trans (bc0.new nq))]; rfl, by rw [cellH_blk ((j.same (h3.size + 1) (by omega) (by omega) (by omega) (by omega)).trans (bc1.new nq))]; rfl, _, dev hq l _ _ hx j nq hl⟩
    · rintro hq l lo R i p hp h5 ba bc hpi hpe ⟨⟨pre, y, e1, e2, e3, e4, j⟩, nq, hl⟩ n5 r5 sb hge hend hexit
      rw [hP] at hpi
      have hiP : i < P.length := (List.getElem?_eq_some_iff.1 hpi).1
      have hl5 := (Array.getElem?_eq_some_iff.1 r5).1
      have hdrop : P.drop i = p :: P.drop (i + 1) := by
        rw [List.drop_eq_getElem_cons hiP]
        congr 1
        exact (List.getElem?_eq_some_iff.1 hpi).2
      rw [hdrop] at e2
      refine new_stL (by rw [zeroH]; rfl) fun h6 b6 n6 s6 => ⟨(n6.same l hl5).trans r5, fun h7 o7 _ => ?_⟩
      have b6 : Blk h6 h5.size (hdA (readF p).1) 90 := b6
      have b7 := b6.only o7 (by omega)
      have j7 := ((j.new n5).new n6).only o7
      have sb7 : Sl8 h7 ba bc (readF p).2.1 := sl_upd (r := some l) (sb.new n6) ⟨Nat.le_of_eq o7.size.symm, fun q _ hq => o7.same q fun e => hq (by rw [e])⟩ fun hx g hg e => by
        have h8 := hge hx g hg
        have h9 := j.sizes; have h10 := j.lq
        injection e with e; omega
      obtain ⟨la, lc, hbB, rr⟩ := j7.var
      obtain ⟨la0, lc0, hbB0, rr0⟩ := j.var
      have hBlow := j.lB; have hAlow := j.lA
      have hbe : ∀ (x : Array Value), Blk h7 h1.size x 67 → Blk hp h1.size x 67 := fun x hx => by
        have e := (o7.same h1.size (by omega)).trans ((n6.same h1.size (by have := j.lq; have := j.sizes; have := n5.size; omega)).trans (n5.same h1.size (by have := j.lq; have := j.sizes; omega)))
        exact e.symm.trans hx
      have hla : la = la0 ∧ lc = lc0 := by
        have := Blk.inj (hbe _ hbB) hbB0
        simp at this; exact this
      obtain ⟨rfl, rfl⟩ := hla
      refine cut_q (ts := []) (fun _ h' => (∀ q, blkOf la = some q → q < hp.size) ∧ JV h1.size h2.size hq l pre (firstS P) h' ∧ Blk h' h1.size #[.slice la pre.length lc] 67 ∧ RowsA h' hq.size la lc pre ∧ Sl8 h' ba bc (readF p).2.1 ∧ Blk h' h5.size (hdA (readF p).1) 90) ?_ ?_
      rotate_left
      · intro K2 hK2
        have hlt : ∀ q, blkOf la = some q → q < hp.size := fun q hq => by
          obtain ⟨vs, ow, _⟩ := rr0
          exact (ow.blk_ge q hq).2
        refine ld_of (c := .slice) (la, pre.length, lc) (by rw [cellH_blk hbB]; rfl) (br_of (fun h0 => ?_) fun h0 => ?_)
        · have h0 : pre = [] := by simpa using h0
          have h0 : i = 0 := by rw [← e1, h0]; rfl
          have hf := first_ok hpi h0
          refine ldAgg_blk (readF p).1 b7 ⟨rfl, rfl, rfl, rfl, trivial⟩ (j7.setA (readF p).1 fun h8 j8 o8 => hK2 _ _ ⟨hlt, by rw [hf]; exact j8, hbB.only o8 (by omega), rr.only o8 (by have := j.lA; have := j.lq; omega), ?_, b7.only o8 (by have := j.sizes; have := n5.size; omega)⟩)
          exact sl_upd (r := some h2.size) sb7 ⟨Nat.le_of_eq o8.size.symm, fun q _ hq => o8.same q fun e => hq (by rw [e])⟩ fun hx g hg e => by
            have h8 := hge hx g hg
            have h9 := j.sizes; have h10 := j.lq
            injection e with e; omega
        · have h0 : i ≠ 0 := by intro e; rw [e] at e1; simp [e1] at h0
          have hy := e4 h0
          rw [hy] at j7
          exact hK2 _ _ ⟨hlt, j7, hbB, rr, sb7, b7⟩
      rintro _ h8 ⟨hlt, j8, hbB8, rr8, sb8, b8⟩ _
      have hidx : IntKind.wrap .u32 ((pre.length : Nat) : Int) = (i : Int) := by rw [wru32, e1]; omega
      refine ld_of (c := .int .u32) (firstS P).2.1 (by rw [add_mk, cellH_blk j8.fst]; rfl) (ld_of (c := .slice) (la, pre.length, lc) (by rw [cellH_blk hbB8]; rfl) (ld_of (c := .int .u32) (firstS P).2.2.2 (by rw [add_mk, cellH_blk j8.fst]; rfl) ?_))
      simp only [hidx]
      refine new_stL (by rw [zeroH]; rfl) fun h9 b9 n9 s9 => ?_
      have b9 : Blk h9 h8.size (hdA (5, (firstS P).2.1, (i : Int), (firstS P).2.2.2)) 90 := b9
      have j9 := j8.new n9
      refine ldAgg_blk (readF p).1 (b8.new n9) ⟨rfl, rfl, rfl, rfl, trivial⟩ (ldAgg_blk ((5 : Int), (firstS P).2.1, (i : Int), (firstS P).2.2.2) b9 ⟨rfl, rfl, rfl, rfl, trivial⟩ ⟨_, HdP.hd_eq _ _, br_of (fun hne => ?_) fun heq => ?_⟩)
      · have hne : (readF p).1 ≠ (5, (firstS P).2.1, (i : Int), (firstS P).2.2.2) := of_decide_eq_false (not_t hne)
        have e5 : colS (firstS P).2.1 (firstS P).2.2.2 i (p :: P.drop (i + 1)) = [] := by rw [colS, if_neg (fun h => hne h.2)]
        rw [e5, List.append_nil] at e2
        exact hexit h9 ⟨by rw [e2]; exact j9, nq, hl⟩
      · have heq : (readF p).1 = (5, (firstS P).2.1, (i : Int), (firstS P).2.2.2) := of_decide_eq_true (not_f heq)
        have e5 : colS (firstS P).2.1 (firstS P).2.2.2 i (p :: P.drop (i + 1)) = (readF p).2.1 :: colS (firstS P).2.1 (firstS P).2.2.2 (i + 1) (P.drop (i + 1)) := by rw [colS, if_pos ⟨hpe, heq⟩]
        rw [e5] at e2
        refine ld_of (c := .slice) (la, pre.length, lc) (by rw [cellH_blk (hbB8.new n9)]; rfl) ?_
        refine j9.push (hbB8.new n9) (rr8.new n9) (sb8.new n9) (fun hx g hg => ⟨by have := hge hx g hg; have := j.sizes; omega, fun e => by have := hge hx g hg; have := hlt g e; omega⟩) (by omega) fun h10 j10 => hend h10 ⟨⟨pre ++ [(readF p).2.1], firstS P, by simp [e1], by rw [e2, List.append_assoc]; rfl, fun h => by omega, fun _ => rfl, j10⟩, nq, hl⟩
    · rintro hq l lo i h5 ⟨⟨pre, y, e1, e2, e3, e4, j⟩, nq, hl⟩ hdone r5
      rw [hP] at hdone
      have hnil : colS (firstS P).2.1 (firstS P).2.2.2 i (P.drop i) = [] := by
        rcases hdone with h6 | ⟨p, hpi, hpe⟩
        · rw [List.drop_of_length_le h6]; rfl
        · rw [List.drop_eq_getElem_cons (List.getElem?_eq_some_iff.1 hpi).1, (List.getElem?_eq_some_iff.1 hpi).2, colS, if_neg (fun h => hpe h.1)]
      rw [hnil, List.append_nil] at e2
      have hy : y = firstS P := by
        by_cases h0 : i = 0
        · rw [e3 h0]
          rcases hdone with h6 | ⟨p, hpi, hpe⟩
          · have : P = [] := List.eq_nil_of_length_eq_zero (by omega)
            rw [this]; rfl
          · rw [first_ok hpi h0, readF_nz hpe]
        · exact e4 h0
      rw [← e2, hy] at j
      exact .inl ⟨r5, fun h6 o6 => fin hq l h6 (j.only o6) nq hl⟩
    · rintro hq l lo h5 ⟨j, nq, hl⟩ r5
      exact .inr (.inr (.inl ⟨r5, fun h6 o6 => fin hq l h6 (j.only o6) nq hl⟩))
  rintro _ h4 ⟨n04, b14, ⟨la, lc, bB, rbb⟩, bA, d4⟩ _
  have hheld : (heldS P).length ≤ 16 := Nat.le_trans (col_take _ _ P 0) hPlen
  have hcb := col_byt (firstS P).2.1 (firstS P).2.2.2 P 0 hbyt
  refine ld_of (c := .slice) (la, (heldS P).length, lc) (by rw [cellH_blk bB]; rfl) (call_of (Ck.read_ok la lc (heldS P) h4 rbb (by omega)) ?_)
  rintro v h5 ⟨da, dc, rfl, o5, n5⟩
  refine ⟨(chkC (readC (heldS P)).1 da dc, errV (readC (heldS P)).2), rfl, new_stL (by rw [zeroK]; rfl) fun h6 b6 n6 s6 => ?_⟩
  have b6 : Blk h6 h5.size (chkA (readC (heldS P)).1 da dc) 40 := b6
  have n46 := n5.trans n6
  have n06 := n04.trans n46
  have d6 := d4.new n46
  have b16 := b14.new n46
  have bB6 := bB.new n46
  have bA6 := bA.new n46
  have ock : ChkOk (readC (heldS P)).1 := readC_ok fun b hb => (hcb b hb).1
  have hrs : readS D zone = if badS D zone P then (ck0, 10) else ((readC (heldS P)).1, 0) := by
    unfold readS
    rw [if_neg (by rw [hdn]; simp), if_neg hzn, hP]
  have cB : cellH h6 ⟨h1.size, 0, none⟩ = some (.slice la (heldS P).length lc) := by rw [cellH_blk bB6]; rfl
  have c0 : cellH h6 (Addr.add (Addr.add ⟨h5.size, 0, none⟩ 3) 0) = some (.int .i64 (readC (heldS P)).1.z) := by rw [add_mk, add_mk, cellH_blk b6]; rfl
  have c1 : cellH h6 (Addr.add (Addr.add ⟨h5.size, 0, none⟩ 3) 1) = some (.int .i64 (readC (heldS P)).1.p) := by rw [add_mk, add_mk, cellH_blk b6]; rfl
  have cn : cellH h6 (Addr.add ⟨h5.size, 0, none⟩ 0) = some (.int .u32 (readC (heldS P)).1.num) := by rw [add_mk, cellH_blk b6]; rfl
  have cs : cellH h6 (Addr.add ⟨h5.size, 0, none⟩ 1) = some (.int .u32 (readC (heldS P)).1.ses) := by rw [add_mk, cellH_blk b6]; rfl
  have f3 : cellH h6 (Addr.add ⟨h2.size, 0, none⟩ 3) = some (.int .u32 (firstS P).2.2.2) := by rw [add_mk, cellH_blk bA6]; rfl
  have f1 : cellH h6 (Addr.add ⟨h2.size, 0, none⟩ 1) = some (.int .u32 (firstS P).2.1) := by rw [add_mk, cellH_blk bA6]; rfl
  refine cut_q (ts := [.sc .bool]) (fun s h' => s = decide (badS D zone P) ∧ New h6 h') ?_ ?_
  rotate_left
  · intro K hK
    have yes : badS D zone P → ∀ hx, New h6 hx → K true hx := fun hb hx nx => hK _ _ ⟨(decide_eq_true hb).symm, nx⟩
    refine ⟨errV_if _, br_of (fun he => yes (.inl (by simpa [errV_nil] using he)) _ (New.refl _)) fun he => ?_⟩
    have he : (readC (heldS P)).2 = 0 := by simpa [errV_nil] using he
    refine ld_of (c := .slice) (la, (heldS P).length, lc) cB (call_of (point_ok zone h6 d6) ?_)
    rintro v h7 ⟨rfl, n7⟩
    have k1 : ∀ {a : Addr} {v : Value}, a.block < h6.size → cellH h6 a = some v → cellH h7 a = some v := fun ha hc => by rw [cellH_new n7 ha]; exact hc
    have hl5 := b6.lt; have hlB := bB6.lt; have hlA := bA6.lt
    have cB7 := k1 hlB cB
    have c07 := k1 (a := Addr.add (Addr.add ⟨h5.size, 0, none⟩ 3) 0) (by rw [add_mk, add_mk]; exact hl5) c0
    have c17 := k1 (a := Addr.add (Addr.add ⟨h5.size, 0, none⟩ 3) 1) (by rw [add_mk, add_mk]; exact hl5) c1
    have cn7 := k1 (a := Addr.add ⟨h5.size, 0, none⟩ 0) (by rw [add_mk]; exact hl5) cn
    have cs7 := k1 (a := Addr.add ⟨h5.size, 0, none⟩ 1) (by rw [add_mk]; exact hl5) cs
    have f37 := k1 (a := Addr.add ⟨h2.size, 0, none⟩ 3) (by rw [add_mk]; exact hlA) f3
    have f17 := k1 (a := Addr.add ⟨h2.size, 0, none⟩ 1) (by rw [add_mk]; exact hlA) f1
    have d7 := d6.new n7
    have hpt : D.point zone = P.length := by unfold Dev.point; rw [hP]
    rw [hpt]
    refine ⟨(P.length : Int), rfl, cB7, br_of (fun h1 => yes (.inr (.inl ?_)) _ n7) fun h1 => ?_⟩
    · have h1 : ¬ ((heldS P).length : Int) = (P.length : Int) := by simpa using h1
      omega
    have h1 : (heldS P).length = P.length := by
      have h1 : ((heldS P).length : Int) = (P.length : Int) := by simpa using h1
      omega
    refine ld_of (c := .int .u32) (readC (heldS P)).1.num cn7 (ld_of (c := .int .u32) (firstS P).2.2.2 f37 (br_of (fun h2 => yes (.inr (.inr (.inl (by simpa using h2)))) _ n7) fun h2 => ?_))
    refine ld_of (c := .int .u32) (readC (heldS P)).1.ses cs7 (ld_of (c := .int .u32) (firstS P).2.1 f17 (br_of (fun h3 => yes (.inr (.inr (.inr (.inl (by simpa using h3))))) _ n7) fun h3 => ?_))
    refine ld_of (c := .int .i64) (readC (heldS P)).1.z c07 (call_of (zones_ok h7 d7) ?_)
    rintro v h' ⟨rfl, hh⟩; subst h'
    refine ⟨(D.zs.length : Int), rfl, c07, cB7, br_of (fun h4 => yes (.inr (.inr (.inr (.inr (.inl (by simpa using h4)))))) _ n7) fun h4 => ?_⟩
    refine ld_of (c := .int .i64) (readC (heldS P)).1.p c17 (call_of (pages_ok h7 d7) ?_)
    rintro v h' ⟨rfl, hh⟩; subst h'
    refine ⟨(D.P : Int), rfl, c17, c07, cB7, br_of (fun h5 => yes (.inr (.inr (.inr (.inr (.inr (.inl (by simpa using h5))))))) _ n7) fun h5 => ?_⟩
    refine ld_of (c := .int .u32) (readC (heldS P)).1.num cn7 (call_of (where_ok o _ ock.num h7 d7) ?_)
    rintro v h' ⟨rfl, hh⟩; subst h'
    refine ⟨whereS D (readC (heldS P)).1.num, rfl, c17, c07, cB7, hK _ _ ⟨?_, n7⟩⟩
    have h2 : (readC (heldS P)).1.num = (firstS P).2.2.2 := by simpa using h2
    have h3 : (readC (heldS P)).1.ses = (firstS P).2.1 := by simpa using h3
    have h4 : (readC (heldS P)).1.z = (D.zs.length : Int) := by simpa using h4
    have h5 : (readC (heldS P)).1.p = (D.P : Int) := by simpa using h5
    by_cases e : whereS D (readC (heldS P)).1.num = zone
    · have e2 : (whereS D (readC (heldS P)).1.num != zone) = false := by simp [e]
      refine e2.trans (decide_eq_false ?_).symm
      rintro (x | x | x | x | x | x | x)
      · exact x he
      · exact x h1
      · exact x h2
      · exact x h3
      · exact x h4
      · exact x h5
      · exact x e
    · have e2 : (whereS D (readC (heldS P)).1.num != zone) = true := by simp [e]
      exact e2.trans (decide_eq_true (.inr (.inr (.inr (.inr (.inr (.inr e))))))).symm
  rintro s h7 ⟨rfl, n7⟩ _
  have n07 := n06.trans n7
  have b17 := b16.new n7
  refine br_of (fun hb => ?_) fun hb => ?_
  · have hb := of_decide_eq_true hb
    refine call_of (wrap_b _ zone 10 h7) ?_
    rintro v h8 ⟨l, hl, n8⟩
    refine ⟨v, rfl, put_taken (K := ReadSP D zone h) (c := ck0) (da := none) (dc := 0) (b17.new n8) rfl fun h9 h' b9 o9 t9 => ?_⟩
    unfold ReadSP
    rw [hrs, if_pos hb]
    refine ⟨none, 0, v, l, rfl, errs_taken t9 (errs (b17.new n8) (by decide) o9 (hl.low n07.size)), OwnH.nil _ _ _ _, ⟨by rw [t9.size, o9.size]; exact (n07.trans n8).size, fun q hq => ?_⟩⟩
    rw [Tk_low t9 hq, o9.same q (by omega), (n07.trans n8).same q hq]
  · have hb := of_decide_eq_false hb
    refine ldChk (b6.new n7) (put_taken (K := ReadSP D zone h) (c := (readC (heldS P)).1) (da := da) (dc := dc) b17 rfl fun h9 h' b9 o9 t9 => ?_)
    unfold ReadSP
    rw [hrs, if_neg hb]
    have hs4 := n04.size
    have hl1 := b14.lt
    refine ⟨da, dc, .nilIface, [], rfl, rfl, ?_, ⟨by rw [t9.size, o9.size]; exact n07.size, fun q hq => ?_⟩⟩
    · exact OwnH.low (base := h4.size) (((((o5.grow n6).grow n7).keep fun g _ hg _ _ => o9.same g (by omega))).keep fun _ _ _ hg _ => Tk_blk t9 hg) hs4
    · rw [Tk_low t9 hq, o9.same q (by omega), n07.same q hq]
def NewestP (D : Dev) (h : Heap) (v : Value) (h' : Heap) : Prop := ∃ da dc e l, v = .tuple #[chkV (newestS D).1 da dc, e] ∧ ErrB h.size h' e l (newestS D).2 ∧ OwnH h' h.size 35 1 da (newestS D).1.dir.length dc ((newestS D).1.dir.map (Value.int .u32)) ∧ New h h'
theorem newest_ok {k b : Nat} {t : Tags} {D : Dev} (o : DevOk D) (h : Heap) (r : PRep k t h b D) :
    CallsH Tryz.prog 20 [ptr b] h (NewestP D h) := by
  refine fun_ok Geo.hm' Tryz.func20 (by kernel_rfl) (F20_eq _ _ h) ?_
  unfold F20
  have hzs := o.zones
  refine new_of fun h1 b1 n1 s1 => ?_
  rw [zeroK] at b1
  have r1 := r.new n1
  refine cut_q (ts := []) (fun _ h' => h' = h1 ∧ ¬ ((D.zs.length : Int) < 2 ∧ D.down = false)) ?_ ?_
  rotate_left
  · intro K hK
    refine call_of (zones_ok h1 r1) ?_
    rintro v h' ⟨rfl, hh⟩; subst h'
    refine ⟨(D.zs.length : Int), rfl, br_of (fun h2 => call_of (down_ok h1 r1) ?_) fun h2 => hK () _ ⟨rfl, fun h => (of_decide_eq_false h2) h.1⟩⟩
    have h2 : (D.zs.length : Int) < 2 := of_decide_eq_true h2
    rintro v h' ⟨rfl, hh⟩; subst h'
    refine ⟨D.down, rfl, br_of (fun h3 => ?_) fun h3 => hK () _ ⟨rfl, fun h => by rw [h.2] at h3; cases h3⟩⟩
    have h3 : D.down = false := not_t h3
    refine put_out (K := NewestP D h) (c := ck0) (da := none) (dc := 0) b1 rfl fun h4 o4 => ?_
    unfold NewestP
    have e : newestS D = (ck0, 1) := by unfold newestS; rw [if_pos ⟨h2, h3⟩]
    rw [e]
    exact ⟨none, 0, errV 1, [], rfl, rfl, OwnH.nil _ _ _ _, o4.upd.new n1 (Nat.le_refl _)⟩
  rintro _ h' ⟨hh, hno⟩ _; subst h'
  refine call_of (zones_ok h1 r1) ?_
  rintro v h' ⟨rfl, hh⟩; subst h'
  have ew : IntKind.wrap .i64 ((D.zs.length : Int) - 2) = (D.zs.length : Int) - 2 := wr64 (by omega) (by omega)
  have ew1 : IntKind.wrap .i64 ((D.zs.length : Int) - 1) = (D.zs.length : Int) - 1 := wr64 (by omega) (by omega)
  refine ⟨(D.zs.length : Int), rfl, ?_⟩
  rw [ew]
  have ns : newestS D = if (readS D ((D.zs.length : Int) - 2)).2 = 7 ∨ ((readS D ((D.zs.length : Int) - 2)).2 ≠ 0 ∧ (readS D ((D.zs.length : Int) - 1)).2 ≠ 0) then (ck0, (readS D ((D.zs.length : Int) - 2)).2)
      else if (readS D ((D.zs.length : Int) - 2)).2 ≠ 0 ∨ ((readS D ((D.zs.length : Int) - 1)).2 = 0 ∧ behindB (readS D ((D.zs.length : Int) - 1)).1.num (readS D ((D.zs.length : Int) - 2)).1.num = true) then ((readS D ((D.zs.length : Int) - 1)).1, 0)
      else ((readS D ((D.zs.length : Int) - 2)).1, 0) := by
    conv => lhs; unfold newestS
    rw [if_neg hno]
  have rd1 := sread_ok o ((D.zs.length : Int) - 2) h1 r1
  have rd2 := fun h r => sread_ok (t := t) (k := k) (b := b) o ((D.zs.length : Int) - 1) h r
  unfold ReadSP at rd1 rd2
  generalize readS D ((D.zs.length : Int) - 2) = A at *
  generalize readS D ((D.zs.length : Int) - 1) = B at *
  refine call_of rd1 ?_
  rintro v h2 ⟨da, dc, ea, l1, rfl, he2, o2, n2⟩
  refine ⟨(chkC A.1 da dc, ea), rfl, new_stL (by rw [zeroK]; rfl) fun h3 b3 n3 s3 => ?_⟩
  have b3 : Blk h3 h2.size (chkA A.1 da dc) 40 := b3
  have n13 := n2.trans n3
  have r3 := r1.new n13
  refine call_of (zones_ok h3 r3) ?_
  rintro v h' ⟨rfl, hh⟩; subst h'
  refine ⟨(D.zs.length : Int), rfl, ?_⟩
  rw [ew1]
  refine call_of (rd2 h3 r3) ?_
  rintro v h4 ⟨db, dd, eb, l2, rfl, he4, o4, n4⟩
  refine ⟨(chkC B.1 db dd, eb), rfl, new_stL (by rw [zeroK]; rfl) fun h5 b5 n5 s5 => ?_⟩
  have b5 : Blk h5 h4.size (chkA B.1 db dd) 40 := b5
  have n35 := n4.trans n5
  have n05 := (n1.trans n13).trans n35
  have ea5b := (he2.new n3).new n35
  have eb5b := he4.new n5
  have ea5 := ea5b.c
  have eb5 := eb5b.c
  have b35 := b3.new n35
  have b15 := (b1.new n13).new n35
  have oA := ((o2.grow n3).grow n35).low n1.size
  have oB := ((o4.grow n5)).low (n1.trans n13).size
  refine cut_q (ts := [.sc .bool]) (fun s h' => s = decide (A.2 = 7 ∨ (A.2 ≠ 0 ∧ B.2 ≠ 0)) ∧ h' = h5) ?_ ?_
  rotate_left
  · intro K hK
    refine call_of (Is_ok ea l1 A.2 7 h5 (by decide) ea5) ?_
    rintro v h' ⟨rfl, hh⟩; subst h'
    refine ⟨A.2 == 7, rfl, br_of (fun h => ?_) fun h => ⟨ea5.ok.1, ?_⟩⟩
    · have h : A.2 = 7 := by simpa using h
      exact hK _ _ ⟨(decide_eq_true (Or.inl h)).symm, rfl⟩
    · have h : ¬ A.2 = 7 := by simpa using h
      rw [ea5.ok.2]
      refine br_of (fun h0 => ⟨eb5.ok.1, hK _ _ ⟨?_, rfl⟩⟩) fun h0 => hK _ _ ⟨?_, rfl⟩
      · have h0 : A.2 ≠ 0 := of_decide_eq_false (not_t h0)
        rw [eb5.ok.2]
        by_cases e : B.2 = 0
        · have e2 : (!decide (B.2 = 0)) = false := by simp [e]
          exact e2.trans (decide_eq_false (by rintro (x | x); exact h x; exact x.2 e)).symm
        · have e2 : (!decide (B.2 = 0)) = true := by simp [e]
          exact e2.trans (decide_eq_true (Or.inr ⟨h0, e⟩)).symm
      · have h0 : A.2 = 0 := of_decide_eq_true (not_f h0)
        exact (decide_eq_false (by rintro (x | x); exact h x; exact x.1 h0)).symm
  rintro s h' ⟨rfl, hh⟩ _; subst h'
  refine br_of (fun hc => ?_) fun hc => ?_
  · have hc := of_decide_eq_true hc
    refine put_out (K := NewestP D h) (c := ck0) (da := none) (dc := 0) b15 rfl fun h6 o6 => ?_
    unfold NewestP
    rw [ns, if_pos hc]
    exact ⟨none, 0, ea, l1, rfl, errs b15 (by decide) o6 (ea5b.low n1.size), OwnH.nil _ _ _ _, o6.upd.new n05 (Nat.le_refl _)⟩
  have hc := of_decide_eq_false hc
  rw [if_neg hc] at ns
  have hl5 := b15.lt
  refine cut_q (ts := [.sc .bool]) (fun s h' => s = decide (A.2 ≠ 0 ∨ (B.2 = 0 ∧ behindB B.1.num A.1.num = true)) ∧ h' = h5) ?_ ?_
  rotate_left
  · intro K hK
    refine ⟨ea5.ok.1, ?_⟩
    rw [ea5.ok.2]
    refine br_of (fun h0 => hK _ _ ⟨?_, rfl⟩) fun h0 => ⟨eb5.ok.1, ?_⟩
    · have h0 : A.2 ≠ 0 := of_decide_eq_false (not_t h0)
      exact (decide_eq_true (Or.inl h0)).symm
    have h0 : A.2 = 0 := of_decide_eq_true (not_f h0)
    rw [eb5.ok.2]
    refine br_of (fun h1 => ?_) fun h1 => hK _ _ ⟨?_, rfl⟩
    · have h1 : B.2 = 0 := of_decide_eq_true h1
      refine ld_of (c := .int .u32) B.1.num (by rw [add_mk, cellH_blk b5]; rfl) (ld_of (c := .int .u32) A.1.num (by rw [add_mk, cellH_blk b35]; rfl) (call_of (behind_ok B.1.num A.1.num h5) ?_))
      rintro v h' ⟨rfl, hh⟩; subst h'
      refine ⟨behindB B.1.num A.1.num, rfl, hK _ _ ⟨?_, rfl⟩⟩
      cases hb : behindB B.1.num A.1.num with
      | true => exact (decide_eq_true (Or.inr ⟨h1, rfl⟩)).symm
      | false => exact (decide_eq_false (by rintro (x | x); exact x h0; cases x.2)).symm
    · have h1 : ¬ B.2 = 0 := of_decide_eq_false h1
      exact (decide_eq_false (by rintro (x | x); exact x h0; exact h1 x.1)).symm
  rintro s h' ⟨rfl, hh⟩ _; subst h'
  refine br_of (fun hd => ?_) fun hd => ?_
  · have hd := of_decide_eq_true hd
    refine ldChk b5 (put_out (K := NewestP D h) (c := B.1) (da := db) (dc := dd) b15 rfl fun h6 o6 => ?_)
    unfold NewestP
    rw [ns, if_pos hd]
    exact ⟨db, dd, .nilIface, [], rfl, rfl, OwnH.low (base := h3.size) ((o4.grow n5).keep fun g _ hg _ _ => o6.same g (by have := n1.size; have := n13.size; omega)) (n1.trans n13).size, o6.upd.new n05 (Nat.le_refl _)⟩
  · have hd := of_decide_eq_false hd
    refine ldChk b35 (put_out (K := NewestP D h) (c := A.1) (da := da) (dc := dc) b15 rfl fun h6 o6 => ?_)
    unfold NewestP
    rw [ns, if_neg hd]
    exact ⟨da, dc, .nilIface, [], rfl, rfl, OwnH.low (base := h1.size) (((o2.grow n3).grow n35).keep fun g _ hg _ _ => o6.same g (by omega)) n1.size, o6.upd.new n05 (Nat.le_refl _)⟩
end Go.Proofs.YthimfpkkdhpceaaGreatDoor.Slt
/-
  Checkpoints in the last two zones: plain laws of what is written.
-/
namespace Go.Proofs.YthimfpkkdhpceaaGreatDoor.Slt
open Go.Pl Go.Proofs.YthimfpkkdhpceaaGreatDoor.Byts Go.Proofs.YthimfpkkdhpceaaGreatDoor.Four Go.Proofs.YthimfpkkdhpceaaGreatDoor.Adl Go.Proofs.YthimfpkkdhpceaaGreatDoor.Head Go.Proofs.YthimfpkkdhpceaaGreatDoor.HdP Go.Proofs.YthimfpkkdhpceaaGreatDoor.Geo Go.Proofs.YthimfpkkdhpceaaGreatDoor.Zns Go.Proofs.YthimfpkkdhpceaaGreatDoor.Ck
def pagesC (ses num : Int) : Nat → List (List Int) → List (List Int)
  | _, [] => []
  | i, b :: l => pg ses num i b :: pagesC ses num (i + 1) l
theorem pagesC_len (ses num : Int) : ∀ (l : List (List Int)) (i : Nat), (pagesC ses num i l).length = l.length
  | [], _ => rfl
  | b :: l, i => by unfold pagesC; rw [List.length_cons, List.length_cons, pagesC_len ses num l (i + 1)]
theorem hd_ok {ses num : Int} (hs : U32 ses) (hn : U32 num) {i : Nat} (hi : i < 4294967296) : HdOk (5, ses, (i : Int), num) := ⟨⟨(by first | omega | (dsimp only; omega) | (simp only []; omega)), (by first | omega | (dsimp only; omega) | (simp only []; omega))⟩, hs, ⟨(by first | omega | (dsimp only; omega) | (simp only []; omega)), (by first | omega | (dsimp only; omega) | (simp only []; omega))⟩, hn⟩
theorem pg_read {ses num : Int} (hs : U32 ses) (hn : U32 num) {i : Nat} (hi : i < 4294967296) {b : List Int} (hb : b.length = 16) : readF (pg ses num i b) = ((5, ses, (i : Int), num), b, 0) := read_page (hd_ok hs hn hi) hb (by simp [isR])
theorem col_all {ses num : Int} (hs : U32 ses) (hn : U32 num) : ∀ (l : List (List Int)) (i : Nat), i + l.length < 4294967296 → (∀ b ∈ l, b.length = 16) → colS ses num i (pagesC ses num i l) = l
  | [], _, _, _ => rfl
  | b :: l, i, hi, hb => by
    simp only [List.length_cons] at hi
    unfold pagesC colS
    rw [pg_read hs hn (by omega) (hb b (by simp)), if_pos ⟨rfl, rfl⟩, col_all hs hn l (i + 1) (by omega) fun c hc => hb c (by simp [hc])]
theorem held_all {ses num : Int} (hs : U32 ses) (hn : U32 num) {l : List (List Int)} (hl : l.length < 4294967296) (hb : ∀ b ∈ l, b.length = 16) (h0 : l ≠ []) : heldS (pagesC ses num 0 l) = l ∧ firstS (pagesC ses num 0 l) = (5, ses, 0, num) := by
  have hf : firstS (pagesC ses num 0 l) = (5, ses, 0, num) := by
    cases l with
    | nil => exact (h0 rfl).elim
    | cons b l =>
      show (readF (pg ses num 0 b)).1 = _
      rw [pg_read hs hn (i := 0) (by omega) (hb b (by simp))]; rfl
  refine ⟨?_, hf⟩
  unfold heldS
  rw [hf]
  exact col_all hs hn l 0 (by omega) hb
/-- A device whose power stays. -/
structure Runs (D : Dev) : Prop where
  ok : DevOk D
  down : D.down = false
  fuse : D.fuse = -1
theorem doing_runs {D : Dev} (h1 : D.down = false) (h2 : D.fuse = -1) : ∃ o, D.doing 0 = ({ D with ops := o }, 0) := by
  refine ⟨IntKind.wrap .i64 (D.ops + 1), ?_⟩
  unfold Dev.doing
  rw [if_neg (by rw [h1]; simp), if_neg (by simp), if_neg (by rw [h2]; decide), h2]
  obtain ⟨zs, P, fuse, ops, down⟩ := D
  simp only [] at h2
  subst h2
  rfl
theorem app_one {D : Dev} {zone : Nat} {b : List Int} (h1 : D.down = false) (h2 : D.fuse = -1) (hz : zone < D.zs.length) (hf : D.zs[zone].fin = false) (hl : D.zs[zone].pages.length < D.P) (hb : b.length = 33) :
    ∃ o, D.append (zone : Int) b = ({ D with zs := D.zs.set zone { D.zs[zone] with pages := D.zs[zone].pages ++ [b] }, ops := o }, (D.point (zone : Int) : Int), 0) := by
  have he : D.appendE (zone : Int) b = 0 := by
    unfold Dev.appendE
    rw [if_neg (by rw [there_of hz]; rintro (h | h); cases h; exact h hb), if_neg]
    unfold Dev.state
    rw [at_of hz]
    split
    · decide
    split
    · rename_i h; rcases h with h | h
      · rw [hf] at h; cases h
      · omega
    · decide
  obtain ⟨o, ho⟩ := doing_runs h1 h2
  refine ⟨o, ?_⟩
  unfold Dev.append
  rw [he, ho]
  simp only []
  rw [if_neg (by simp), at_of hz]
  simp only [Dev.setZ, Int.toNat_natCast]
theorem app_all (zone : Nat) {ses num : Int} : ∀ (l : List (List Int)) (D : Dev) (i : Nat) (hz : zone < D.zs.length), D.down = false → D.fuse = -1 → D.zs[zone].fin = false → D.zs[zone].pages.length + l.length ≤ D.P → (∀ b ∈ l, b.length = 16) →
    ∃ o, appS (zone : Int) ses num D i l = ({ D with zs := D.zs.set zone { D.zs[zone] with pages := D.zs[zone].pages ++ pagesC ses num i l }, ops := o }, 0)
  | [], D, i, hz, _, _, _, _, _ => by
    refine ⟨D.ops, ?_⟩
    unfold appS pagesC
    rw [List.append_nil]
    have : D.zs.set zone { D.zs[zone] with pages := D.zs[zone].pages } = D.zs := List.set_getElem_self hz
    rw [this]
  | b :: l, D, i, hz, h1, h2, hf, hl, hb => by
    simp only [List.length_cons] at hl
    obtain ⟨o, ho⟩ := app_one h1 h2 hz hf (by omega) (show (pg ses num i b).length = 33 from pageL_len _ (hb b (by simp)))
    obtain ⟨o2, ho2⟩ := app_all zone (ses := ses) (num := num) l { D with zs := D.zs.set zone { D.zs[zone] with pages := D.zs[zone].pages ++ [pg ses num i b] }, ops := o } (i + 1) (by simpa using hz) h1 h2 (by simpa using hf) (by simp; omega) fun c hc => hb c (by simp [hc])
    refine ⟨o2, ?_⟩
    unfold appS
    rw [ho, if_neg (by simp), ho2]
    simp only [List.getElem_set_self, List.set_set, List.append_assoc, List.singleton_append]
    rfl
theorem boundFrom_tab' (z p : Int) : ∀ n, (boundFrom z p n + 3) / 4 ≤ p ∨ boundFrom z p n = 0
  | 0 => .inr rfl
  | n + 1 => by
    have ih := boundFrom_tab' z p n
    simp only [boundFrom]
    split
    · rename_i h
      unfold okB at h
      rw [Bool.and_eq_true] at h
      exact .inl (of_decide_eq_true h.1)
    · exact ih
theorem right_tab' {z p b : Int} (h : rightB z p b = true) : (b + 3) / 4 ≤ p := by
  obtain ⟨hz, hp, h1, _⟩ := right_facts h
  unfold rightB at h
  rw [Bool.and_eq_true] at h
  have h2 := of_decide_eq_true h.1
  unfold boundF at h2
  rw [if_pos ⟨hz, hp⟩] at h2
  rcases boundFrom_tab' z p 64 with h3 | h3
  · omega
  · omega
/-- What is written where it fits. -/
theorem write_all {D : Dev} (r : Runs D) {c : Chk} (k : ChkOk c) (hr : rightC c = true) (hz : c.z = (D.zs.length : Int)) (hp : c.p = (D.P : Int)) :
    ∃ D', writeS D c = (D', 0) ∧ Runs D' ∧ D'.zs.length = D.zs.length ∧ D'.P = D.P ∧ (D'.at_ (whereS D c.num)).pages = pagesC c.ses c.num 0 (blocksC c).1 ∧ ∀ z : Int, z ≠ whereS D c.num → (D'.at_ z).pages = (D.at_ z).pages := by
  have hzs := r.ok.zones
  obtain ⟨_, hz1, hp1, hb1, hd1⟩ := right_c hr
  have hmod : 0 ≤ c.num % 2 ∧ c.num % 2 < 2 := by omega
  obtain ⟨w, hw, hwl⟩ : ∃ w : Nat, whereS D c.num = (w : Int) ∧ w < D.zs.length := by
    unfold whereS
    exact ⟨((D.zs.length : Int) - 2 + c.num % 2).toNat, by omega, by omega⟩
  have eb : blocksC c = (chunks (manyN c.b) (bytesC c), 0) := by unfold blocksC; rw [if_neg (by rw [hr]; simp)]
  have hlen := bytes_len hr
  have h16 := chunks_each hlen
  have hcl := chunks_len (manyN c.b) (bytesC c)
  have hmany : (manyN c.b : Int) ≤ c.p := by
    have h0 : rightB c.z c.p c.b = true := (right_c hr).1
    have := right_tab' h0
    unfold manyN lenN tabN; omega
  obtain ⟨o1, ho1⟩ := doing_runs r.down r.fuse
  have hreset : D.reset (w : Int) = ({ D with zs := D.zs.set w Zn.bare, ops := o1 }, 0) := by
    unfold Dev.reset
    have : D.resetE (w : Int) = 0 := by unfold Dev.resetE; rw [if_neg (by rw [there_of hwl]; simp)]
    rw [this, ho1]
    simp only []
    rw [if_neg (by simp)]
    simp only [Dev.setZ, Int.toNat_natCast]
  obtain ⟨o2, ho2⟩ := app_all w (ses := c.ses) (num := c.num) (chunks (manyN c.b) (bytesC c)) { D with zs := D.zs.set w Zn.bare, ops := o1 } 0 (by simpa using hwl) r.down r.fuse (by simp [Zn.bare]) (by simp [Zn.bare, hcl]; omega) h16
  have hg : ({ D with zs := D.zs.set w Zn.bare, ops := o1 } : Dev).zs[w]'(by simpa using hwl) = Zn.bare := by simp
  rw [hg] at ho2
  simp only [List.set_set] at ho2
  obtain ⟨o3, ho3⟩ := doing_runs (D := { D with zs := D.zs.set w { Zn.bare with pages := Zn.bare.pages ++ pagesC c.ses c.num 0 (chunks (manyN c.b) (bytesC c)) }, ops := o2 }) r.down r.fuse
  have hfl : ({ D with zs := D.zs.set w { Zn.bare with pages := Zn.bare.pages ++ pagesC c.ses c.num 0 (chunks (manyN c.b) (bytesC c)) }, ops := o2 } : Dev).flush = (({ D with zs := D.zs.set w { Zn.bare with pages := Zn.bare.pages ++ pagesC c.ses c.num 0 (chunks (manyN c.b) (bytesC c)) }, ops := o3 } : Dev).settle, 0) := by
    unfold Dev.flush
    rw [ho3]
    simp only []
    rw [if_neg (by simp)]
  have hwr : writeS D c = (({ D with zs := D.zs.set w { Zn.bare with pages := Zn.bare.pages ++ pagesC c.ses c.num 0 (chunks (manyN c.b) (bytesC c)) }, ops := o3 } : Dev).settle, 0) := by
    unfold writeS
    rw [hw, eb]
    simp only []
    rw [if_neg (by rintro (h | h | h); exact h rfl; exact h hz; exact h hp), hreset]
    simp only []
    rw [if_neg (by simp), ho2]
    simp only []
    rw [if_neg (by simp)]
    exact hfl
  have hok := DevOk.write r.ok k
  rw [hwr] at hok
  refine ⟨_, hwr, ⟨hok, r.down, r.fuse⟩, by simp [Dev.settle], rfl, ?_, fun z hne => ?_⟩
  · rw [hw, eb, at_of (by simpa [Dev.settle] using hwl)]
    simp [Dev.settle, Zn.settle, Zn.bare]
  · rw [hw] at hne
    by_cases ht : D.there z = true
    · obtain ⟨y, rfl, hy⟩ := there_nat ht
      rw [at_of (by simpa [Dev.settle] using hy), at_of hy]
      have hne : w ≠ y := fun e => hne (by rw [e])
      simp [Dev.settle, Zn.settle, List.getElem_set_ne hne]
    · have ht : D.there z = false := by simpa using ht
      have ht2 : (({ D with zs := D.zs.set w { Zn.bare with pages := Zn.bare.pages ++ pagesC c.ses c.num 0 (chunks (manyN c.b) (bytesC c)) }, ops := o3 } : Dev).settle).there z = false := by
        unfold Dev.there at ht ⊢
        simpa [Dev.settle] using ht
      rw [at_none ht, at_none ht2]
/-- What was written is read. -/
theorem read_new {D D' : Dev} (r' : D'.down = false) (hl : D'.zs.length = D.zs.length) (hP : D'.P = D.P) {c : Chk} (k : ChkOk c) (hr : rightC c = true) (hz : c.z = (D.zs.length : Int)) (hp : c.p = (D.P : Int)) (hpg : (D'.at_ (whereS D c.num)).pages = pagesC c.ses c.num 0 (blocksC c).1) :
    readS D' (whereS D c.num) = (c, 0) := by
  obtain ⟨_, hz1, _, _, _⟩ := right_c hr
  have hw : whereS D' c.num = whereS D c.num := by unfold whereS; rw [hl]
  have eb : blocksC c = (chunks (manyN c.b) (bytesC c), 0) := by unfold blocksC; rw [if_neg (by rw [hr]; simp)]
  have hlen := bytes_len hr
  have h16 := chunks_each hlen
  have hcl := chunks_len (manyN c.b) (bytesC c)
  have hm : 2 ≤ manyN c.b ∧ manyN c.b ≤ 100 := by obtain ⟨_, _, _, hb, _⟩ := right_c hr; unfold manyN lenN tabN; omega
  obtain ⟨hh, hf⟩ := held_all k.ses k.num (l := (blocksC c).1) (by rw [eb]; simp only []; omega) (by rw [eb]; exact h16) (by rw [eb]; intro e; simp only [] at e; rw [e] at hcl; simp at hcl; omega)
  unfold readS
  rw [if_neg (by rw [r']; simp), if_neg (by unfold whereS; omega), hpg]
  have hb : ¬ badS D' (whereS D c.num) (pagesC c.ses c.num 0 (blocksC c).1) := by
    unfold badS
    rw [hh, hf, back_c k hr, pagesC_len, hl, hP]
    rintro (h | h | h | h | h | h | h)
    · exact h rfl
    · exact h rfl
    · exact h rfl
    · exact h rfl
    · exact h hz
    · exact h hp
    · exact h hw
  rw [if_neg hb, hh, back_c k hr]
theorem bad_same {D D' : Dev} (hl : D'.zs.length = D.zs.length) (hP : D'.P = D.P) (z : Int) (P : List (List Int)) : badS D' z P ↔ badS D z P := by
  unfold badS whereS
  rw [hl, hP]
/-- What a slot holds depends on its pages alone. -/
theorem read_same {D D' : Dev} (hd : D'.down = D.down) (hl : D'.zs.length = D.zs.length) (hP : D'.P = D.P) {z : Int} (hz : (D'.at_ z).pages = (D.at_ z).pages) : readS D' z = readS D z := by
  unfold readS
  rw [hd, hl, hz]
  simp only [bad_same hl hP]
theorem read_none {D : Dev} (hd : D.down = false) {z : Int} (hz : (D.at_ z).pages = []) (h2 : ¬ ((D.zs.length : Int) < 2 ∨ z < (D.zs.length : Int) - 2 ∨ z ≥ (D.zs.length : Int))) : readS D z = (ck0, 10) := by
  unfold readS
  rw [if_neg (by rw [hd]; simp), if_neg h2, hz, if_pos]
  exact .inl (by decide)
end Go.Proofs.YthimfpkkdhpceaaGreatDoor.Slt
/-
  The formulas of the common functions of the laws of slot. Each formula checked by the kernel. Printed by a program of this repo.
-/
namespace Go.Proofs.YthimfpkkdhpceaaGreatDoor.W
open Go.Pl

-- function 6
set_option maxRecDepth 100000 in
def F6  (K : Value → Heap → Prop) (h0 : Heap) : Prop := (
  callT Tryz.prog 8 [.int .i64 11, .int .i64 4] [.sc .ptr, .sc .any] (fun (r1 : (Option Addr) × Value) h2 =>
  br (Option.isNone r1.1)
  (K (.bool false) h2)
  (newW (.cells #[.int .u32 4, .int .u32 0] 35) (fun a3 h4 =>
  newW (.cells (zeroC Tryz.prog 40) 40) (fun a5 h6 =>
  stLW a5 [.int .u32 4, .int .u32 2, .int .u32 3, .int .i64 11, .int .i64 4, .int .i64 6, .slice (some a3) 2 2] (fun h7 =>
  callT Tryz.prog 20 [.pointer r1.1] [.agg [.int .u32, .int .u32, .int .u32, .int .i64, .int .i64, .int .i64, .slice], .sc .any] (fun (r8 : (Int × Int × Int × Int × Int × Int × (Option Addr × Nat × Nat)) × Value) h9 =>
  newW (.cells (zeroC Tryz.prog 40) 40) (fun a10 h11 =>
  stLW a10 [.int .u32 r8.1.1, .int .u32 r8.1.2.1, .int .u32 r8.1.2.2.1, .int .i64 r8.1.2.2.2.1, .int .i64 r8.1.2.2.2.2.1, .int .i64 r8.1.2.2.2.2.2.1, .slice r8.1.2.2.2.2.2.2.1 r8.1.2.2.2.2.2.2.2.1 r8.1.2.2.2.2.2.2.2.2] (fun h12 =>
  ldAggW [.int .u32, .int .u32, .int .u32, .int .i64, .int .i64, .int .i64, .slice] a5 (fun (x13 : Int × Int × Int × Int × Int × Int × (Option Addr × Nat × Nat)) =>
  callT Tryz.prog 13 [.pointer r1.1, .agg #[.int .u32 x13.1, .int .u32 x13.2.1, .int .u32 x13.2.2.1, .int .i64 x13.2.2.2.1, .int .i64 x13.2.2.2.2.1, .int .i64 x13.2.2.2.2.2.1, .slice x13.2.2.2.2.2.2.1 x13.2.2.2.2.2.2.2.1 x13.2.2.2.2.2.2.2.2]] [.sc .any] (fun (r14 : Value) h15 =>
  callT Tryz.prog 20 [.pointer r1.1] [.agg [.int .u32, .int .u32, .int .u32, .int .i64, .int .i64, .int .i64, .slice], .sc .any] (fun (r16 : (Int × Int × Int × Int × Int × Int × (Option Addr × Nat × Nat)) × Value) h17 =>
  newW (.cells (zeroC Tryz.prog 40) 40) (fun a18 h19 =>
  stLW a18 [.int .u32 r16.1.1, .int .u32 r16.1.2.1, .int .u32 r16.1.2.2.1, .int .i64 r16.1.2.2.2.1, .int .i64 r16.1.2.2.2.2.1, .int .i64 r16.1.2.2.2.2.2.1, .slice r16.1.2.2.2.2.2.2.1 r16.1.2.2.2.2.2.2.2.1 r16.1.2.2.2.2.2.2.2.2] (fun h20 =>
  callT Tryz.prog 17 [.pointer r1.1, .int .i64 9] [.agg [.int .u32, .int .u32, .int .u32, .int .i64, .int .i64, .int .i64, .slice], .sc .any] (fun (r21 : (Int × Int × Int × Int × Int × Int × (Option Addr × Nat × Nat)) × Value) h22 =>
  newW (.cells (zeroC Tryz.prog 40) 40) (fun a23 h24 =>
  stLW a23 [.int .u32 r21.1.1, .int .u32 r21.1.2.1, .int .u32 r21.1.2.2.1, .int .i64 r21.1.2.2.2.1, .int .i64 r21.1.2.2.2.2.1, .int .i64 r21.1.2.2.2.2.2.1, .slice r21.1.2.2.2.2.2.2.1 r21.1.2.2.2.2.2.2.2.1 r21.1.2.2.2.2.2.2.2.2] (fun h25 =>
  stW (Addr.add a5 0) (.int .u32 5) (fun h26 =>
  ldAggW [.int .u32, .int .u32, .int .u32, .int .i64, .int .i64, .int .i64, .slice] a5 (fun (x27 : Int × Int × Int × Int × Int × Int × (Option Addr × Nat × Nat)) =>
  callT Tryz.prog 13 [.pointer r1.1, .agg #[.int .u32 x27.1, .int .u32 x27.2.1, .int .u32 x27.2.2.1, .int .i64 x27.2.2.2.1, .int .i64 x27.2.2.2.2.1, .int .i64 x27.2.2.2.2.2.1, .slice x27.2.2.2.2.2.2.1 x27.2.2.2.2.2.2.2.1 x27.2.2.2.2.2.2.2.2]] [.sc .any] (fun (_r28 : Value) h29 =>
  callT Tryz.prog 20 [.pointer r1.1] [.agg [.int .u32, .int .u32, .int .u32, .int .i64, .int .i64, .int .i64, .slice], .sc .any] (fun (r30 : (Int × Int × Int × Int × Int × Int × (Option Addr × Nat × Nat)) × Value) h31 =>
  newW (.cells (zeroC Tryz.prog 40) 40) (fun a32 h33 =>
  stLW a32 [.int .u32 r30.1.1, .int .u32 r30.1.2.1, .int .u32 r30.1.2.2.1, .int .i64 r30.1.2.2.2.1, .int .i64 r30.1.2.2.2.2.1, .int .i64 r30.1.2.2.2.2.2.1, .slice r30.1.2.2.2.2.2.2.1 r30.1.2.2.2.2.2.2.2.1 r30.1.2.2.2.2.2.2.2.2] (fun h34 =>
  callT Tryz.prog 17 [.pointer r1.1, .int .i64 8] [.agg [.int .u32, .int .u32, .int .u32, .int .i64, .int .i64, .int .i64, .slice], .sc .any] (fun (r35 : (Int × Int × Int × Int × Int × Int × (Option Addr × Nat × Nat)) × Value) h36 =>
  newW (.cells (zeroC Tryz.prog 40) 40) (fun a37 h38 =>
  stLW a37 [.int .u32 r35.1.1, .int .u32 r35.1.2.1, .int .u32 r35.1.2.2.1, .int .i64 r35.1.2.2.2.1, .int .i64 r35.1.2.2.2.2.1, .int .i64 r35.1.2.2.2.2.2.1, .slice r35.1.2.2.2.2.2.2.1 r35.1.2.2.2.2.2.2.2.1 r35.1.2.2.2.2.2.2.2.2] (fun h39 =>
  callT Tryz.prog 12 [r8.2] [.sc (.int .i64)] (fun (r40 : Int) h41 =>
  br (r40 == (10 : Int))
  (ifW r14 (br (isNilV r14)
  (ifW r16.2 (br (isNilV r16.2)
  (ldW (.int .u32) (Addr.add a18 0) (fun (x42 : Int) =>
  br (x42 == (4 : Int))
  (ifW r21.2 (br (isNilV r21.2)
  (ldAggW [.int .u32, .int .u32, .int .u32, .int .i64, .int .i64, .int .i64, .slice] a18 (fun (x43 : Int × Int × Int × Int × Int × Int × (Option Addr × Nat × Nat)) =>
  ldAggW [.int .u32, .int .u32, .int .u32, .int .i64, .int .i64, .int .i64, .slice] a23 (fun (x44 : Int × Int × Int × Int × Int × Int × (Option Addr × Nat × Nat)) =>
  callT Tryz.prog 27 [.agg #[.int .u32 x43.1, .int .u32 x43.2.1, .int .u32 x43.2.2.1, .int .i64 x43.2.2.2.1, .int .i64 x43.2.2.2.2.1, .int .i64 x43.2.2.2.2.2.1, .slice x43.2.2.2.2.2.2.1 x43.2.2.2.2.2.2.2.1 x43.2.2.2.2.2.2.2.2], .agg #[.int .u32 x44.1, .int .u32 x44.2.1, .int .u32 x44.2.2.1, .int .i64 x44.2.2.2.1, .int .i64 x44.2.2.2.2.1, .int .i64 x44.2.2.2.2.2.1, .slice x44.2.2.2.2.2.2.1 x44.2.2.2.2.2.2.2.1 x44.2.2.2.2.2.2.2.2]] [.sc .bool] (fun (r45 : Bool) h46 =>
  br r45
  (callT Tryz.prog 22 [.pointer r1.1, .int .u32 5] [.sc (.int .i64)] (fun (r47 : Int) h48 =>
  br (r47 == (10 : Int))
  (ifW r30.2 (br (isNilV r30.2)
  (ldAggW [.int .u32, .int .u32, .int .u32, .int .i64, .int .i64, .int .i64, .slice] a32 (fun (x49 : Int × Int × Int × Int × Int × Int × (Option Addr × Nat × Nat)) =>
  ldAggW [.int .u32, .int .u32, .int .u32, .int .i64, .int .i64, .int .i64, .slice] a5 (fun (x50 : Int × Int × Int × Int × Int × Int × (Option Addr × Nat × Nat)) =>
  callT Tryz.prog 27 [.agg #[.int .u32 x49.1, .int .u32 x49.2.1, .int .u32 x49.2.2.1, .int .i64 x49.2.2.2.1, .int .i64 x49.2.2.2.2.1, .int .i64 x49.2.2.2.2.2.1, .slice x49.2.2.2.2.2.2.1 x49.2.2.2.2.2.2.2.1 x49.2.2.2.2.2.2.2.2], .agg #[.int .u32 x50.1, .int .u32 x50.2.1, .int .u32 x50.2.2.1, .int .i64 x50.2.2.2.1, .int .i64 x50.2.2.2.2.1, .int .i64 x50.2.2.2.2.2.1, .slice x50.2.2.2.2.2.2.1 x50.2.2.2.2.2.2.2.1 x50.2.2.2.2.2.2.2.2]] [.sc .bool] (fun (r51 : Bool) h52 =>
  br r51
  (callT Tryz.prog 12 [r35.2] [.sc (.int .i64)] (fun (r53 : Int) h54 =>
  K (.bool (r53 == (1 : Int))) h54) h52)
  (K (.bool false) h52)) h48) h48) h48)
  (K (.bool false) h48)))
  (K (.bool false) h48)) h46)
  (K (.bool false) h46)) h41) h41) h41)
  (K (.bool false) h41)))
  (K (.bool false) h41)) h41)
  (K (.bool false) h41)))
  (K (.bool false) h41)))
  (K (.bool false) h41)) h39) h38) h36) h34) h33) h31) h29) h26) h26) h25) h24) h22) h20) h19) h17) h15) h12) h12) h11) h9) h7) h6) h4) h2)) h0)
set_option maxRecDepth 100000 in
theorem F6_eq  (K : Value → Heap → Prop) (h0 : Heap) : funWE Tryz.prog 6 (.seq (.leaf) (.seq (.leaf) (.seq (.seq (.leaf) (.cond (.seq (.leaf) (.leaf)) (.leaf))) (.seq (.leaf) (.seq (.leaf) (.seq (.leaf) (.seq (.leaf) (.seq (.leaf) (.seq (.leaf) (.seq (.leaf) (.seq (.leaf) (.seq (.leaf) (.seq (.leaf) (.leaf)))))))))))))) [] K h0 = F6  K h0 := by kernel_rfl

-- function 7
set_option maxRecDepth 100000 in
def F7 (l_0 : Option Addr) (l_0l _l_0c : Nat) (K : Value → Heap → Prop) (h0 : Heap) : Prop := (
  br (decide ((((l_0l : Nat) : Int)) > (30 : Int)))
  (K (.bool true) h0)
  (loopT [.sc (.int .i64)] (fun (s2 : Int) _ (K1 : Int → Heap → Prop) h3 =>
  br (decide (s2 < (((l_0l : Nat) : Int))))
  (ptrW l_0 (fun a4 =>
  idxW s2 l_0l true (ldAggW [.int .u32, .int .u32, .int .u32, .int .i64, .int .i64, .int .i64, .slice] (Addr.add a4 (Int.toNat s2 * 7)) (fun (x5 : Int × Int × Int × Int × Int × Int × (Option Addr × Nat × Nat)) =>
  newW (.cells (zeroC Tryz.prog 40) 40) (fun a6 h7 =>
  stLW a6 [.int .u32 x5.1, .int .u32 x5.2.1, .int .u32 x5.2.2.1, .int .i64 x5.2.2.2.1, .int .i64 x5.2.2.2.2.1, .int .i64 x5.2.2.2.2.2.1, .slice x5.2.2.2.2.2.2.1 x5.2.2.2.2.2.2.2.1 x5.2.2.2.2.2.2.2.2] (fun h8 =>
  ldW .slice (Addr.add a6 6) (fun (x9 : Option Addr × Nat × Nat) =>
  br (decide ((((x9.2.1 : Nat) : Int)) > (100 : Int)))
  (K (.bool true) h8)
  (K1 (IntKind.wrap .i64 (s2 + (1 : Int))) h8)) h8) h7) h3) h3)))
  (K (.bool false) h3)) (0 : Int) h0))
set_option maxRecDepth 100000 in
theorem F7_eq (l_0 : Option Addr) (l_0l l_0c : Nat) (K : Value → Heap → Prop) (h0 : Heap) : funWE Tryz.prog 7 (.seq (.leaf) (.seq (.seq (.leaf) (.cond (.seq (.leaf) (.leaf)) (.leaf))) (.seq (.seq (.leaf) (.block (.loop [(10, .sc (.int .i64))] (.seq (.leaf) (.seq (.cond (.leaf) (.leaf)) (.seq (.block (.seq (.leaf) (.seq (.leaf) (.cond (.seq (.leaf) (.leaf)) (.leaf))))) (.leaf))))))) (.seq (.leaf) (.leaf))))) [.slice l_0 l_0l l_0c] K h0 = F7 l_0 l_0l l_0c K h0 := by kernel_rfl

end Go.Proofs.YthimfpkkdhpceaaGreatDoor.W
/-
  What the laws of layer 15 (slot) come to: what came in; the law's own functions.
-/
namespace Go.Proofs.YthimfpkkdhpceaaGreatDoor.Slt
open Go.Pl Go.Proofs.YthimfpkkdhpceaaGreatDoor.W Go.Proofs.YthimfpkkdhpceaaGreatDoor.Byts Go.Proofs.YthimfpkkdhpceaaGreatDoor.Four Go.Proofs.YthimfpkkdhpceaaGreatDoor.Adl Go.Proofs.YthimfpkkdhpceaaGreatDoor.As Go.Proofs.YthimfpkkdhpceaaGreatDoor.Err Go.Proofs.YthimfpkkdhpceaaGreatDoor.Head Go.Proofs.YthimfpkkdhpceaaGreatDoor.HdP Go.Proofs.YthimfpkkdhpceaaGreatDoor.Geo Go.Proofs.YthimfpkkdhpceaaGreatDoor.Zns Go.Proofs.YthimfpkkdhpceaaGreatDoor.ZnsP Go.Proofs.YthimfpkkdhpceaaGreatDoor.Ck Go.Proofs.YthimfpkkdhpceaaGreatDoor.Rng
/- WHAT CAME IN. -/
abbrev CkSh : Sh := .pair (.int .u32) (.pair (.int .u32) (.pair (.int .u32) (.pair (.pair (.int .i64) (.pair (.int .i64) (.int .i64))) (.slice (.int .u32)))))
def ckX (x : CkSh.T) : Chk := ⟨x.1, x.2.1, x.2.2.1, x.2.2.2.1.1, x.2.2.2.1.2.1, x.2.2.2.1.2.2, x.2.2.2.2⟩
theorem ck_in {h : Heap} {es : List Value} {x : CkSh.T} (r : Reads h CkSh es x) : ∃ da dc, es = (chkA (ckX x) da dc).toList ∧ Ar .u32 h da (ckX x).dir ∧ ChkOk (ckX x) := by
  obtain ⟨c1, d1, rfl, ⟨rfl, w1⟩, c2, d2, rfl, ⟨rfl, w2⟩, c3, d3, rfl, ⟨rfl, w3⟩, c4, d4, rfl, ⟨e1, e2, rfl, ⟨rfl, w4⟩, e3, e4, rfl, ⟨rfl, w5⟩, ⟨rfl, w6⟩⟩, ⟨a, c, rfl, hs⟩⟩ := r
  have r5 : ReadsV h (.slice (.int .u32)) (.slice a (List.length (α := (Sh.int .u32).T) x.2.2.2.2) c) x.2.2.2.2 := ⟨_, rfl, a, c, rfl, hs⟩
  obtain ⟨a', c', e, _, _, _, ar, hw⟩ := Ar.reads r5
  injection e with e1 e2 e3
  subst e1; subst e3
  exact ⟨a, c, rfl, ar, u32_wf w1, u32_wf w2, u32_wf w3, fun y hy => u32_wf (hw y hy)⟩
theorem ck_at {h0 h : Heap} {a : Option Addr} {l : List CkSh.T} (r : SlAt h0 CkSh a l) (n : New h0 h) {i : Nat} (hi : i < l.length) : ∃ da dc, Ar .u32 h0 da (ckX l[i]).dir ∧ ChkOk (ckX l[i]) ∧
    ∀ {m : Nat} {F : ChkC → Prop}, i < m → F (chkC (ckX l[i]) da dc) → ptrW a (fun p => idxW (i : Int) m true (ldAggW ChkY (Addr.add p (Int.toNat (i : Int) * 7)) F h)) := by
  obtain ⟨b, o, es, rfl, hb, hel, hc, re⟩ := r i _ (List.getElem?_eq_getElem hi)
  obtain ⟨da, dc, rfl, ar, ok⟩ := ck_in re
  refine ⟨da, dc, ar, ok, fun hm hF => ?_⟩
  exact agg_at (k := 7) (chkC (ckX l[i]) da dc) (es := (chkA (ckX l[i]) da dc).toList) (fun j hj => by rw [cellH_same (n.same b hb)]; exact hc j hj) rfl rfl hm hF
def largeC (l : List CkSh.T) : Bool := decide (30 < l.length) || l.any fun x => decide (100 < (ckX x).dir.length)
theorem largeC_no {l : List CkSh.T} (h : largeC l = false) : l.length ≤ 30 ∧ ∀ x ∈ l, (ckX x).dir.length ≤ 100 := by
  unfold largeC at h
  rw [Bool.or_eq_false_iff] at h
  refine ⟨by have := of_decide_eq_false h.1; omega, fun b hb => ?_⟩
  have := List.any_eq_false.1 h.2 b hb
  simp at this; exact this
theorem slarge_ok (a : Option Addr) (c : Nat) (l : List CkSh.T) (h : Heap) (r : SlAt h CkSh a l) :
    CallsH Tryz.prog 7 [.slice a l.length c] h fun v h' => v = .bool (largeC l) ∧ New h h' := by
  refine fun_ok Geo.hm' Tryz.func7 (by kernel_rfl) (F7_eq _ _ _ _ h) ?_
  unfold F7
  refine br_of (fun hg => ?_) (fun hg => ?_)
  · have hg : (l.length : Int) > 30 := of_decide_eq_true hg
    refine ⟨?_, New.refl h⟩
    unfold largeC; rw [decide_eq_true (show 30 < l.length by omega)]; rfl
  have hg : ¬ (l.length : Int) > 30 := of_decide_eq_false hg
  refine ⟨fun (s : Int) h' => New h h' ∧ ∃ i : Nat, s = i ∧ i ≤ l.length ∧ ∀ b ∈ l.take i, (ckX b).dir.length ≤ 100, fun (s : Int) _ => (l.length - s).toNat, ⟨New.refl h, 0, rfl, by omega, by simp⟩, ?_⟩
  rintro s j h1 ⟨n1, i, rfl, hi, hno⟩
  refine br_of (fun hlt => ?_) (fun hlt => ?_)
  · have hlt : (i : Int) < (l.length : Int) := of_decide_eq_true hlt
    have hiL : i < l.length := by omega
    obtain ⟨da, dc, _, _, ld⟩ := ck_at r n1 hiL
    refine ld hiL (new_stL (by rw [zeroK]; rfl) fun h2 b2 n2 s2 => ?_)
    have b2 : Blk h2 h1.size (chkA (ckX l[i]) da dc) 40 := b2
    refine ld_of (c := .slice) (da, (ckX l[i]).dir.length, dc) (by rw [add_mk, cellH_blk b2]; rfl) (br_of (fun hb => ⟨?_, n1.trans n2⟩) fun hb => ?_)
    · have hb : ((ckX l[i]).dir.length : Int) > 100 := of_decide_eq_true hb
      unfold largeC
      have : l.any (fun x => decide (100 < (ckX x).dir.length)) = true := List.any_eq_true.2 ⟨_, List.getElem_mem hiL, decide_eq_true (by omega)⟩
      rw [this, Bool.or_true]
    · have hb : ¬ ((ckX l[i]).dir.length : Int) > 100 := of_decide_eq_false hb
      have ez : IntKind.wrap .i64 ((i : Int) + 1) = ((i + 1 : Nat) : Int) := (by first | (rw [wr64 (by omega) (by omega)]; omega) | (simp only [IntKind.wrap_i64]; omega))
      rw [ez]
      refine ⟨⟨n1.trans n2, i + 1, rfl, hiL, fun b hb' => ?_⟩, (by first | omega | (dsimp only; omega) | (simp only []; omega))⟩
      rw [← List.take_append_getElem hiL] at hb'
      rcases List.mem_append.1 hb' with hb' | hb'
      · exact hno b hb'
      · rw [List.mem_singleton.1 hb']; omega
  · have hlt : ¬ (i : Int) < (l.length : Int) := of_decide_eq_false hlt
    have : i = l.length := by omega
    subst this
    rw [List.take_length] at hno
    refine ⟨?_, n1⟩
    unfold largeC
    rw [decide_eq_false (by omega)]
    have : l.any (fun x => decide (100 < (ckX x).dir.length)) = false := List.any_eq_false.2 fun b hb => by have := hno b hb; simp; omega
    rw [this]; rfl
/- WHAT STAYS. -/
theorem own_im {k : IntKind} {t : Tags} {h : Heap} {n c : Nat} {e : TypeId} {a : Option Addr} {xs : List Int} (o : OwnH h n e 1 a xs.length c (xs.map (Value.int k))) : Im k (lay t n (0, 0)) h a xs := ⟨Ar.own o, fun _ g hg => by rw [lay_ge (o.blk_ge g hg).1]⟩
theorem fr_new {t t' : Tags} {k : Nat} {h0 h h' : Heap} (f : Fr (fun p => p.1 ≠ k) t h t' h') (n : New h0 h) (ht : ∀ g, g < h0.size → (t g).1 ≠ k) : New h0 h' := f.new n ht
/-- Nothing that was there is turned: the blocks below a base belong to nobody. -/
structure Bz (h0 : Heap) (t : Tags) (h : Heap) : Prop where
  new : New h0 h
  tag : ∀ b, b < h0.size → (t b).1 = 0
theorem Bz.fr {S : Nat × Nat → Prop} {h0 h h' : Heap} {t t' : Tags} (b : Bz h0 t h) (f : Fr S t h t' h') (hS : ∀ p : Nat × Nat, p.1 = 0 → S p) : Bz h0 t' h' :=
  ⟨f.new b.new fun c hc => hS _ (b.tag c hc), fun c hc => by rw [f.tags c (Nat.lt_of_lt_of_le hc b.new.size)]; exact b.tag c hc⟩
theorem Bz.lay {h0 h h' : Heap} {t : Tags} (b : Bz h0 t h) (n : New h h') (p : Nat × Nat) : Bz h0 (lay t h.size p) h' := b.fr (S := fun _ => True) (Fr.lay n p) fun _ _ => trivial
theorem Bz.im {k : IntKind} {h0 h : Heap} {t : Tags} (b : Bz h0 t h) {a : Option Addr} {xs : List Int} (r : Ar k h0 a xs) : Im k t h a xs := ⟨r.new b.new, fun hx g hg => b.tag g (r.lt hx g hg)⟩
/- AWAKE. -/
def c4 : Chk := ⟨4, 2, 3, 11, 4, 6, [4, 0]⟩
def c5 : Chk := ⟨5, 2, 3, 11, 4, 6, [4, 0]⟩
theorem u32d {x : Int} (h : decide (0 ≤ x ∧ x < 4294967296) = true) : U32 x := by
  have := of_decide_eq_true h
  exact this
theorem dir_ok : ∀ x ∈ ([4, 0] : List Int), U32 x := fun x hx => by
  simp only [List.mem_cons, List.not_mem_nil, or_false] at hx
  rcases hx with rfl | rfl <;> exact u32d rfl
theorem c4_ok : ChkOk c4 := ⟨u32d rfl, u32d rfl, u32d rfl, dir_ok⟩
theorem c5_ok : ChkOk c5 := ⟨u32d rfl, u32d rfl, u32d rfl, dir_ok⟩
theorem c4_right : rightC c4 = true := by decide
theorem c5_right : rightC c5 = true := by decide
theorem empty_runs {n p : Nat} (h1 : 1 ≤ n ∧ n ≤ 24) (h2 : 1 ≤ p ∧ p ≤ 16) : Runs (Dev.empty n p) := ⟨DevOk.empty h1 h2, rfl, rfl⟩
theorem empty_pages (n p : Nat) (z : Int) : ((Dev.empty n p).at_ z).pages = [] := by
  cases h : (Dev.empty n p).there z with
  | false => rw [at_none h]; rfl
  | true =>
    obtain ⟨y, rfl, hy⟩ := there_nat h
    rw [at_of hy]
    simp [Dev.empty, Zn.bare]
theorem awake_plain : newestS (Dev.empty 11 4) = (ck0, 10) ∧ ∃ D1 D2, writeS (Dev.empty 11 4) c4 = (D1, 0) ∧ Runs D1 ∧ newestS D1 = (c4, 0) ∧ readS D1 9 = (c4, 0) ∧ writeS D1 c5 = (D2, 0) ∧ Runs D2 ∧ newestS D2 = (c5, 0) ∧ readS D2 8 = (ck0, 1) ∧ whereS D2 5 = 10 := by
  have r0 := empty_runs (n := 11) (p := 4) (by decide) (by decide)
  have hl0 : (Dev.empty 11 4).zs.length = 11 := rfl
  have e9 := read_none r0.down (empty_pages 11 4 9) (by rw [hl0]; decide)
  have e10 := read_none r0.down (empty_pages 11 4 10) (by rw [hl0]; decide)
  obtain ⟨D1, hw1, r1, hl1, hP1, hp1, ho1⟩ := write_all r0 c4_ok c4_right rfl rfl
  have w1 : whereS (Dev.empty 11 4) c4.num = 9 := by decide
  have rd1 := read_new r1.down hl1 hP1 c4_ok c4_right rfl rfl hp1
  rw [w1] at rd1 ho1
  have rd10 := (read_same (D := Dev.empty 11 4) (D' := D1) (by rw [r1.down]; rfl) hl1 hP1 (ho1 10 (by decide))).trans e10
  obtain ⟨D2, hw2, r2, hl2, hP2, hp2, ho2⟩ := write_all r1 c5_ok c5_right (by rw [hl1]; rfl) (by rw [hP1]; rfl)
  have w2 : whereS D1 c5.num = 10 := by unfold whereS; rw [hl1]; decide
  have rd2 := read_new r2.down hl2 hP2 c5_ok c5_right (by rw [hl1]; rfl) (by rw [hP1]; rfl) hp2
  rw [w2] at rd2 ho2
  have rd29 := (read_same (D := D1) (D' := D2) (by rw [r2.down, r1.down]) hl2 hP2 (ho2 9 (by decide))).trans rd1
  have hL1 : D1.zs.length = 11 := hl1
  have hL2 : D2.zs.length = 11 := hl2.trans hl1
  refine ⟨?_, D1, D2, hw1, r1, ?_, rd1, hw2, r2, ?_, ?_, ?_⟩
  · unfold newestS
    rw [hl0]
    have a1 : ((11 : Nat) : Int) - 2 = 9 := by decide
    have a2 : ((11 : Nat) : Int) - 1 = 10 := by decide
    rw [a1, a2, e9, e10, if_neg (by decide), if_pos (.inr ⟨by decide, by decide⟩)]
  · unfold newestS
    rw [hL1]
    have a1 : ((11 : Nat) : Int) - 2 = 9 := by decide
    have a2 : ((11 : Nat) : Int) - 1 = 10 := by decide
    rw [a1, a2, rd1, rd10, if_neg (by rintro ⟨h, _⟩; exact absurd h (by decide)), if_neg (by rintro (h | h); exact absurd h (by decide); exact h.1 rfl), if_neg (by rintro (h | h); exact h rfl; exact absurd h.1 (by decide))]
  · unfold newestS
    rw [hL2]
    have a1 : ((11 : Nat) : Int) - 2 = 9 := by decide
    have a2 : ((11 : Nat) : Int) - 1 = 10 := by decide
    rw [a1, a2, rd2, rd29, if_neg (by rintro ⟨h, _⟩; exact absurd h (by decide)), if_neg (by rintro (h | h); exact absurd h (by decide); exact h.1 rfl), if_pos (.inr ⟨rfl, by decide⟩)]
  · unfold readS
    rw [if_neg (by rw [r2.down]; simp), hL2, if_pos (by decide)]
  · unfold whereS; rw [hL2]; decide
theorem errT_nil {t : Tags} {h : Heap} {v : Value} {l : List (ByteArray × Int)} (e : ErrT t h v l 0) : v = .nilIface := by
  cases l with
  | nil => exact e
  | cons p l => obtain ⟨_, _⟩ := p; exact (e.1 rfl).elim
theorem errB_nil {n : Nat} {h : Heap} {v : Value} {l : List (ByteArray × Int)} (e : ErrB n h v l 0) : v = .nilIface := by
  cases l with
  | nil => exact e
  | cons p l => obtain ⟨_, _⟩ := p; exact (e.1 rfl).elim
theorem awake_ok (h : Heap) (hg : Laid h) : CallsH Tryz.prog 6 [] h fun v h' => v = .bool true ∧ New h h' := by
  refine fun_ok Geo.hm' Tryz.func6 (by kernel_rfl) (F6_eq _ h) ?_
  unfold F6
  obtain ⟨p0, D1, D2, hw1, rn1, p1, q1, hw2, rn2, p2, q2, w2⟩ := awake_plain
  have rn0 := empty_runs (n := 11) (p := 4) (by decide) (by decide)
  refine call_of (ZnsP.new_ok 1 (by decide) (fun _ => (0, 0)) 11 4 h (by decide) (by decide)) ?_
  rintro v h1 ⟨b, rfl, n1, _, t1, ht1, r1⟩
  have r1 : PRep 1 t1 h1 b (Dev.empty 11 4) := r1
  generalize Dev.empty 11 4 = D0 at *
  refine ⟨(some ⟨b, 0, none⟩, errV 0), rfl, br_f rfl (new_of fun h2 b2 n2 s2 => new_stL (by rw [zeroK]; rfl) fun h3 b3 n3 s3 => ?_)⟩
  have b3 : Blk h3 h2.size (chkA c4 (some ⟨h1.size, 0, none⟩) 2) 40 := b3
  have n13 := n2.trans n3
  have z1 : Bz h t1 h1 := ⟨n1, fun g hg => by rw [ht1 g hg]⟩
  have z3 := z1.lay n13 (3, 0)
  have r3 : PRep 1 (lay t1 h1.size (3, 0)) h3 b D0 := r1.fr (S := fun _ => True) (Fr.lay n13 _) (fun _ _ => trivial) fun _ => trivial
  have tg3 : ∀ g, h1.size ≤ g → (lay t1 h1.size (3, 0) g) = (3, 0) := fun g hg => lay_ge hg
  have b23 : Blk h3 h1.size #[.int .u32 4, .int .u32 0] 35 := b2.new n3
  generalize lay t1 h1.size (3, 0) = T3 at *
  refine call_of (newest_ok rn0.ok h3 r3) ?_
  rintro v h4 ⟨da, dc, e8, l8, rfl, er8, o8, n4⟩
  rw [p0] at er8 o8 ⊢
  refine ⟨(chkC ck0 da dc, e8), rfl, new_stL (by rw [zeroK]; rfl) fun h5 b5 n5 s5 => ?_⟩
  have n35 := n4.trans n5
  have r5 := PRep.lay r3 n35
  have z5 := z3.lay n35 (0, 0)
  have er5 : ErrT (lay T3 h3.size (0, 0)) h5 e8 l8 10 := (er8.tag rfl).new n5
  have b35 := b3.new n35
  have b25 := b23.new n35
  have tg5 : ∀ g, h1.size ≤ g → g < h3.size → (lay T3 h3.size (0, 0) g) = (3, 0) := fun g hg hl => by rw [lay_lt hl]; exact tg3 g hg
  generalize lay T3 h3.size (0, 0) = T5 at *
  have ar5 : Ar .u32 h5 (some ⟨h1.size, 0, none⟩) c4.dir := Ar.blk (xs := [4, 0]) b25
  have hl23 : h2.size < h3.size := b3.lt
  have hl12 : h1.size < h2.size := by omega
  refine ldChk b35 (call_of (write_ok (k := 1) (by decide) rn0.ok c4 c4_ok _ 2 h5 r5 ar5) ?_)
  rintro v h6 ⟨l14, t6, er14, r6, f6⟩
  rw [hw1] at er14 r6
  refine ⟨v, rfl, ?_⟩
  obtain rfl := errT_nil er14
  have z6 := z5.fr f6 fun p hp => by rw [hp]; decide
  have er6 := er5.fr f6 fun p hp => by rw [hp]; decide
  have b36 := f6.blk b35 (by rw [tg5 _ (by omega) hl23]; decide)
  have b26 := f6.blk b25 (by rw [tg5 _ (Nat.le_refl _) (by omega)]; decide)
  have hs35 := n35.size
  have tg6 : ∀ g, h1.size ≤ g → g < h3.size → t6 g = (3, 0) := fun g hg hl => by rw [f6.tags g (by omega)]; exact tg5 g hg hl
  refine call_of (newest_ok rn1.ok h6 r6) ?_
  rintro v h7 ⟨da7, dc7, e16, l16, rfl, er16, o16, n7⟩
  rw [p1] at er16 o16 ⊢
  obtain rfl := errB_nil er16
  refine ⟨(chkC c4 da7 dc7, .nilIface), rfl, new_stL (by rw [zeroK]; rfl) fun h8 b8 n8 s8 => ?_⟩
  have b8 : Blk h8 h7.size (chkA c4 da7 dc7) 40 := b8
  have n68 := n7.trans n8
  refine call_of (sread_ok rn1.ok 9 h8 (r6.new n68)) ?_
  rintro v h9 ⟨da9, dc9, e21, l21, rfl, er21, o21, n9⟩
  rw [q1] at er21 o21 ⊢
  obtain rfl := errB_nil er21
  refine ⟨(chkC c4 da9 dc9, .nilIface), rfl, new_stL (by rw [zeroK]; rfl) fun h10 b10 n10 s10 => ?_⟩
  have b10 : Blk h10 h9.size (chkA c4 da9 dc9) 40 := b10
  have n810 := n9.trans n10
  have n610 := n68.trans n810
  have r10 := PRep.lay r6 n610
  have z10 := z6.lay n610 (0, 0)
  have er10 : ErrT (lay t6 h6.size (0, 0)) h10 e8 l8 10 := er6.fr (S := fun _ => True) (Fr.lay n610 _) fun _ _ => trivial
  have im16 : Im .u32 (lay t6 h6.size (0, 0)) h10 da7 c4.dir := own_im ((o16.grow n8).grow n810)
  have im21 : Im .u32 (lay t6 h6.size (0, 0)) h10 da9 c4.dir := own_im ((o21.grow n10).low n68.size)
  have tg10 : ∀ g, h1.size ≤ g → g < h3.size → (lay t6 h6.size (0, 0) g) = (3, 0) := fun g hg hl => by rw [lay_lt (by have := f6.size; omega)]; exact tg6 g hg hl
  have tz10 : ∀ g, h6.size ≤ g → (lay t6 h6.size (0, 0) g) = (0, 0) := fun g hg => lay_ge hg
  generalize lay t6 h6.size (0, 0) = T10 at *
  have b310 := b36.new n610
  have b210 := b26.new n610
  have b810 := b8.new n810
  have hs6 := f6.size
  have hs7 := n7.size
  have hs9 := n68.size
  have hs89 := n9.size
  rw [add_mk]
  refine st_blk b310 (show 0 + 0 < 7 by omega) fun h11 b11 o11 => ?_
  have b11 : Blk h11 h2.size (chkA c5 (some ⟨h1.size, 0, none⟩) 2) 40 := b11
  have fo : Fr (fun p => p.1 ≠ 3) T10 h10 T10 h11 := Fr.upd o11.upd fun hn => hn (by rw [tg10 _ (by omega) hl23])
  have hS3 : ∀ p : Nat × Nat, p.1 = 0 → p.1 ≠ 3 := fun p hp => by rw [hp]; decide
  have r11 := r10.fr fo hS3 fun j => (by decide : (1 : Nat) ≠ 3)
  have z11 := z10.fr fo hS3
  have er11 := er10.fr fo hS3
  have im16' := im16.fr fo hS3
  have im21' := im21.fr fo hS3
  have b211 := b210.only o11 (by omega)
  have b811 := b810.only o11 (by omega)
  have b1011 := b10.only o11 (by omega)
  have ar11 : Ar .u32 h11 (some ⟨h1.size, 0, none⟩) c5.dir := Ar.blk (xs := [4, 0]) b211
  refine ldChk b11 (call_of (write_ok (k := 1) (by decide) rn1.ok c5 c5_ok _ 2 h11 r11 ar11) ?_)
  rintro v h12 ⟨l28, t12, er28, r12, f12⟩
  rw [hw2] at er28 r12
  refine ⟨v, rfl, ?_⟩
  have hS1 : ∀ p : Nat × Nat, p.1 = 0 → p.1 ≠ 1 := fun p hp => by rw [hp]; decide
  have z12 := z11.fr f12 hS1
  have er12 := er11.fr f12 hS1
  have im16'' := im16'.fr f12 hS1
  have im21'' := im21'.fr f12 hS1
  have b312 := f12.blk b11 (by rw [tg10 _ (by omega) hl23]; decide)
  have b212 := f12.blk b211 (by rw [tg10 _ (Nat.le_refl _) (by omega)]; decide)
  have b812 := f12.blk b811 (by rw [tz10 _ hs7]; decide)
  have b1012 := f12.blk b1011 (by rw [tz10 _ (by omega)]; decide)
  refine call_of (newest_ok rn2.ok h12 r12) ?_
  rintro v h13 ⟨da13, dc13, e30, l30, rfl, er30, o30, n13'⟩
  rw [p2] at er30 o30 ⊢
  obtain rfl := errB_nil er30
  refine ⟨(chkC c5 da13 dc13, .nilIface), rfl, new_stL (by rw [zeroK]; rfl) fun h14 b14 n14 s14 => ?_⟩
  have b14 : Blk h14 h13.size (chkA c5 da13 dc13) 40 := b14
  have n1214 := n13'.trans n14
  refine call_of (sread_ok rn2.ok 8 h14 (r12.new n1214)) ?_
  rintro v h15 ⟨da15, dc15, e35, l35, rfl, er35, o35, n15⟩
  rw [q2] at er35 o35 ⊢
  refine ⟨(chkC ck0 da15 dc15, e35), rfl, new_stL (by rw [zeroK]; rfl) fun h16 b16 n16 s16 => ?_⟩
  have n1416 := n15.trans n16
  have n1216 := n1214.trans n1416
  have z16 := z12.lay n1216 (0, 0)
  have lg : ∀ hx, New h16 hx → Laid hx := fun hx nx => hg.new (z16.new.trans nx)
  refine call_of (Err.code_ok e8 l8 10 h16 (lg _ (New.refl _)) (er12.new n1216).c) ?_
  rintro v h17 ⟨rfl, n17⟩
  have n1217 := n1216.trans n17
  refine ⟨(10 : Int), rfl, br_t rfl ⟨.inl rfl, br_t rfl ⟨.inl rfl, br_t rfl (ld_of (c := .int .u32) (4 : Int) (by rw [add_mk, cellH_blk (b812.new n1217)]; rfl) (br_t rfl ⟨.inl rfl, br_t rfl (ldChk (b812.new n1217) (ldChk (b1012.new n1217) (call_of (csame_ok c4 c4 da7 da9 dc7 dc9 h17 (im16''.new n1217).ar (im21''.new n1217).ar (by decide)) ?_)))⟩))⟩⟩⟩
  rintro v h18 ⟨rfl, n18⟩
  have n1218 := n1217.trans n18
  refine ⟨sameC c4 c4, rfl, br_t ((sameC_iff _ _).2 rfl) (call_of (where_ok rn2.ok 5 (u32d rfl) h18 (r12.new n1218)) ?_)⟩
  rintro v h' ⟨rfl, hh⟩; subst h'
  rw [w2]
  have n1418 := (n1416.trans n17).trans n18
  refine ⟨(10 : Int), rfl, br_t rfl ⟨.inl rfl, br_t rfl (ldChk (b14.new n1418) (ldChk (b312.new n1218) (call_of (csame_ok c5 c5 da13 _ dc13 2 h18 (Ar.own ((o30.grow n14).grow n1418)) ((Ar.blk (xs := [4, 0]) b212).new n1218) (by decide)) ?_)))⟩⟩
  rintro v h19 ⟨rfl, n19⟩
  have n1619 := (n17.trans n18).trans n19
  refine ⟨sameC c5 c5, rfl, br_t ((sameC_iff _ _).2 rfl) (call_of (Err.code_ok e35 l35 1 h19 (lg _ n1619) ((er35.new n16).new n1619).c) ?_)⟩
  rintro v h20 ⟨rfl, n20⟩
  exact ⟨(1 : Int), rfl, rfl, (z16.new.trans n1619).trans n20⟩
end Go.Proofs.YthimfpkkdhpceaaGreatDoor.Slt
/-
  Checkpoints in the last two zones, while the power may go: plain laws.
-/
namespace Go.Proofs.YthimfpkkdhpceaaGreatDoor.Slt
open Go.Pl Go.Proofs.YthimfpkkdhpceaaGreatDoor.Byts Go.Proofs.YthimfpkkdhpceaaGreatDoor.Four Go.Proofs.YthimfpkkdhpceaaGreatDoor.Adl Go.Proofs.YthimfpkkdhpceaaGreatDoor.Head Go.Proofs.YthimfpkkdhpceaaGreatDoor.HdP Go.Proofs.YthimfpkkdhpceaaGreatDoor.Geo Go.Proofs.YthimfpkkdhpceaaGreatDoor.Zns Go.Proofs.YthimfpkkdhpceaaGreatDoor.Ck
theorem doing_turn {D : Dev} (h1 : D.down = false) : (∃ f o, D.doing 0 = ({ D with fuse := f, ops := o }, 0)) ∨ D.doing 0 = ({ D with down := true }, 7) := by
  by_cases h2 : D.fuse = 0
  · right
    unfold Dev.doing
    rw [if_neg (by rw [h1]; simp), if_neg (by simp), if_pos h2]
  · left
    refine ⟨max (D.fuse - 1) (-1), IntKind.wrap .i64 (D.ops + 1), ?_⟩
    unfold Dev.doing
    rw [if_neg (by rw [h1]; simp), if_neg (by simp), if_neg h2]
theorem app_one' {D : Dev} {zone : Nat} {b : List Int} (h1 : D.down = false) (hz : zone < D.zs.length) (hf : D.zs[zone].fin = false) (hl : D.zs[zone].pages.length < D.P) (hb : b.length = 33) :
    (∃ f o, D.append (zone : Int) b = ({ D with zs := D.zs.set zone { D.zs[zone] with pages := D.zs[zone].pages ++ [b] }, fuse := f, ops := o }, (D.point (zone : Int) : Int), 0)) ∨ D.append (zone : Int) b = ({ D with down := true }, 0, 7) := by
  have he : D.appendE (zone : Int) b = 0 := by
    unfold Dev.appendE
    rw [if_neg (by rw [there_of hz]; rintro (h | h); cases h; exact h hb), if_neg]
    unfold Dev.state
    rw [at_of hz]
    split
    · decide
    split
    · rename_i h; rcases h with h | h
      · rw [hf] at h; cases h
      · omega
    · decide
  rcases doing_turn h1 with ⟨f, o, ho⟩ | ho
  · left
    refine ⟨f, o, ?_⟩
    unfold Dev.append
    rw [he, ho]
    simp only []
    rw [if_neg (by simp), at_of hz]
    simp only [Dev.setZ, Int.toNat_natCast]
  · right
    unfold Dev.append
    rw [he, ho]
    simp only []
    rw [if_pos (show (7 : Int) ≠ 0 by decide)]
theorem app_turn (zone : Nat) {ses num : Int} : ∀ (l : List (List Int)) (D : Dev) (i : Nat) (hz : zone < D.zs.length), D.down = false → D.zs[zone].fin = false → D.zs[zone].pages.length + l.length ≤ D.P → (∀ b ∈ l, b.length = 16) →
    (∃ f o, appS (zone : Int) ses num D i l = ({ D with zs := D.zs.set zone { D.zs[zone] with pages := D.zs[zone].pages ++ pagesC ses num i l }, fuse := f, ops := o }, 0)) ∨
    ∃ j f o, j ≤ l.length ∧ appS (zone : Int) ses num D i l = ({ D with zs := D.zs.set zone { D.zs[zone] with pages := D.zs[zone].pages ++ pagesC ses num i (l.take j) }, fuse := f, ops := o, down := true }, 7)
  | [], D, i, hz, _, _, _, _ => by
    refine .inl ⟨D.fuse, D.ops, ?_⟩
    unfold appS pagesC
    rw [List.append_nil]
    have : D.zs.set zone { D.zs[zone] with pages := D.zs[zone].pages } = D.zs := List.set_getElem_self hz
    rw [this]
  | b :: l, D, i, hz, h1, hf, hl, hb => by
    simp only [List.length_cons] at hl
    rcases app_one' h1 hz hf (by omega) (show (pg ses num i b).length = 33 from pageL_len _ (hb b (by simp))) with ⟨f, o, ho⟩ | ho
    · rcases app_turn zone (ses := ses) (num := num) l { D with zs := D.zs.set zone { D.zs[zone] with pages := D.zs[zone].pages ++ [pg ses num i b] }, fuse := f, ops := o } (i + 1) (by simpa using hz) h1 (by simpa using hf) (by simp; omega) fun c hc => hb c (by simp [hc]) with ⟨f2, o2, ho2⟩ | ⟨j, f2, o2, hj, ho2⟩
      · refine .inl ⟨f2, o2, ?_⟩
        unfold appS
        rw [ho, if_neg (by simp), ho2]
        simp only [List.getElem_set_self, List.set_set, List.append_assoc, List.singleton_append]
        rfl
      · refine .inr ⟨j + 1, f2, o2, by simp; omega, ?_⟩
        unfold appS
        rw [ho, if_neg (by simp), ho2]
        simp only [List.getElem_set_self, List.set_set, List.append_assoc, List.singleton_append, List.take_succ_cons]
        rfl
    · refine .inr ⟨0, D.fuse, D.ops, by simp, ?_⟩
      unfold appS
      rw [ho, if_pos (show (7 : Int) ≠ 0 by decide)]
      simp only [List.take_zero]
      have : D.zs.set zone { D.zs[zone] with pages := D.zs[zone].pages ++ pagesC ses num i [] } = D.zs := by
        have e : D.zs[zone].pages ++ pagesC ses num i [] = D.zs[zone].pages := List.append_nil _
        rw [e]; exact List.set_getElem_self hz
      rw [this]
def wrote (D : Dev) (w : Nat) (pages : List (List Int)) : List Zn := D.zs.set w ⟨pages, 0, false⟩
/-- A checkpoint is written where it fits; the power may go. -/
theorem write_turn {D : Dev} (ok : DevOk D) (hdn : D.down = false) {c : Chk} (hr : rightC c = true) (hz : c.z = (D.zs.length : Int)) (hp : c.p = (D.P : Int)) {w : Nat} (hw : whereS D c.num = (w : Int)) (hwl : w < D.zs.length) :
    (∃ D', writeS D c = (D', 0) ∧ D'.P = D.P ∧ D'.down = false ∧ D'.zs = (wrote D w (pagesC c.ses c.num 0 (blocksC c).1)).map Zn.settle) ∨
    ∃ D', writeS D c = (D', 7) ∧ D'.P = D.P ∧ (D'.zs = D.zs ∨ ∃ j, j ≤ (blocksC c).1.length ∧ D'.zs = wrote D w (pagesC c.ses c.num 0 ((blocksC c).1.take j))) := by
  have hzs := ok.zones
  obtain ⟨hrb, hz1, hp1, hb1, hd1⟩ := right_c hr
  have eb : blocksC c = (chunks (manyN c.b) (bytesC c), 0) := by unfold blocksC; rw [if_neg (by rw [hr]; simp)]
  have hlen := bytes_len hr
  have h16 := chunks_each hlen
  have hcl := chunks_len (manyN c.b) (bytesC c)
  have hmany : (manyN c.b : Int) ≤ c.p := by
    have := right_tab' hrb
    unfold manyN lenN tabN; omega
  have hno : ¬ ((blocksC c).2 ≠ 0 ∨ c.z ≠ (D.zs.length : Int) ∨ c.p ≠ (D.P : Int)) := by rw [eb]; rintro (h | h | h); exact h rfl; exact h hz; exact h hp
  have hre : D.resetE (w : Int) = 0 := by unfold Dev.resetE; rw [if_neg (by rw [there_of hwl]; simp)]
  rcases doing_turn hdn with ⟨f1, o1, ho1⟩ | ho1
  rotate_left
  · right
    refine ⟨{ D with down := true }, ?_, rfl, .inl rfl⟩
    have hreset : D.reset (w : Int) = ({ D with down := true }, 7) := by
      unfold Dev.reset
      rw [hre, ho1]
      simp only []
      rw [if_pos (show (7 : Int) ≠ 0 by decide)]
    unfold writeS
    rw [if_neg hno, hw, hreset, if_pos (show (7 : Int) ≠ 0 by decide)]
  have hreset : D.reset (w : Int) = ({ D with zs := D.zs.set w Zn.bare, fuse := f1, ops := o1 }, 0) := by
    unfold Dev.reset
    rw [hre, ho1]
    simp only []
    rw [if_neg (by simp)]
    simp only [Dev.setZ, Int.toNat_natCast]
  have hw0 : writeS D c = if (appS (w : Int) c.ses c.num { D with zs := D.zs.set w Zn.bare, fuse := f1, ops := o1 } 0 (blocksC c).1).2 ≠ 0 then appS (w : Int) c.ses c.num { D with zs := D.zs.set w Zn.bare, fuse := f1, ops := o1 } 0 (blocksC c).1 else (appS (w : Int) c.ses c.num { D with zs := D.zs.set w Zn.bare, fuse := f1, ops := o1 } 0 (blocksC c).1).1.flush := by
    unfold writeS
    rw [if_neg hno, hw, hreset, if_neg (by simp)]
  have hg : ({ D with zs := D.zs.set w Zn.bare, fuse := f1, ops := o1 } : Dev).zs[w]'(by simpa using hwl) = Zn.bare := by simp
  have hat := app_turn w (ses := c.ses) (num := c.num) (blocksC c).1 { D with zs := D.zs.set w Zn.bare, fuse := f1, ops := o1 } 0 (by simpa using hwl) hdn (by simp [Zn.bare]) (by rw [eb]; simp [Zn.bare, hcl]; omega) (by rw [eb]; exact h16)
  rw [hg] at hat
  simp only [List.set_set] at hat
  rcases hat with ⟨f2, o2, ha⟩ | ⟨j, f2, o2, hj, ha⟩
  · rw [ha, if_neg (by simp)] at hw0
    rcases doing_turn (D := { D with zs := D.zs.set w { Zn.bare with pages := Zn.bare.pages ++ pagesC c.ses c.num 0 (blocksC c).1 }, fuse := f2, ops := o2 }) hdn with ⟨f3, o3, ho3⟩ | ho3
    · left
      refine ⟨({ D with zs := wrote D w (pagesC c.ses c.num 0 (blocksC c).1), fuse := f3, ops := o3 } : Dev).settle, hw0.trans ?_, rfl, hdn, rfl⟩
      unfold Dev.flush
      rw [ho3]
      simp only []
      rw [if_neg (by simp)]
      rfl
    · right
      refine ⟨{ D with zs := wrote D w (pagesC c.ses c.num 0 (blocksC c).1), fuse := f2, ops := o2, down := true }, hw0.trans ?_, rfl, .inr ⟨(blocksC c).1.length, Nat.le_refl _, by rw [List.take_length]⟩⟩
      unfold Dev.flush
      rw [ho3]
      simp only []
      rw [if_pos (show (7 : Int) ≠ 0 by decide)]
      rfl
  · right
    rw [ha, if_pos (show (7 : Int) ≠ 0 by decide)] at hw0
    exact ⟨_, hw0, rfl, .inr ⟨j, hj, rfl⟩⟩
/- OF FEWER BLOCKS. -/
theorem less_c {c : Chk} (o : ChkOk c) (h : rightC c = true) {j : Nat} (hj : j < (blocksC c).1.length) : (readC ((blocksC c).1.take j)).2 ≠ 0 := by
  intro hz
  have hbl : blocksC c = (chunks (manyN c.b) (bytesC c), 0) := by unfold blocksC; rw [if_neg (by rw [h]; simp)]
  have hlen := bytes_len h
  have h16 := chunks_each hlen
  have hbk := back_c o h
  rw [hbl] at hbk hj
  simp only [hbl] at hz hj
  have hLl := chunks_len (manyN c.b) (bytesC c)
  generalize chunks (manyN c.b) (bytesC c) = L at *
  rcases readC_cases L with ⟨h1, _⟩ | ⟨_, _, _, hr, hm, _⟩
  · rw [hbk] at h1; exact (h1 rfl).elim
  rcases readC_cases (L.take j) with ⟨h1, _⟩ | ⟨_, h2, _, hr', hm', _⟩
  · exact h1 hz
  rw [List.length_take] at h2 hm'
  have hF : L.flatten = (L.take j).flatten ++ (L.drop j).flatten := by rw [← List.flatten_append, List.take_append_drop]
  have hTl : (L.take j).flatten.length = 16 * j := by
    rw [flat_len _ fun b hb => h16 b (List.mem_of_mem_take hb), List.length_take]; omega
  have e : wordAt L.flatten 20 = wordAt (L.take j).flatten 20 := by
    rw [hF]
    exact word_ext fun j hj => bys_left (by omega)
  rw [← e, ← hm] at hm'
  omega
theorem pagesC_take (ses num : Int) : ∀ (l : List (List Int)) (i s : Nat), (pagesC ses num i l).take s = pagesC ses num i (l.take s)
  | [], _, s => by cases s <;> rfl
  | b :: l, i, 0 => rfl
  | b :: l, i, s + 1 => by
    unfold pagesC
    rw [List.take_succ_cons, List.take_succ_cons, pagesC_take ses num l (i + 1) s]
theorem col_torn {ses num : Int} (hs : U32 ses) (hn : U32 num) : ∀ (l : List (List Int)) (i : Nat), i + l.length < 4294967296 → (∀ b ∈ l, b.length = 16) → colS ses num i (pagesC ses num i l ++ [[]]) = l
  | [], i, _, _ => by
    show (if (readF []).2.2 = 0 ∧ (readF []).1 = (5, ses, (i : Int), num) then (readF []).2.1 :: colS ses num (i + 1) [] else []) = []
    exact if_neg fun h => absurd h.1 (by decide)
  | b :: l, i, hi, hb => by
    simp only [List.length_cons] at hi
    show colS ses num i (pg ses num i b :: (pagesC ses num (i + 1) l ++ [[]])) = b :: l
    unfold colS
    rw [pg_read hs hn (by omega) (hb b (by simp)), if_pos ⟨rfl, rfl⟩, col_torn hs hn l (i + 1) (by omega) fun c hc => hb c (by simp [hc])]
/-- What a slot holds of pages of which some are gone. -/
theorem read_part {D : Dev} (hdn : D.down = false) {z : Int} (h2 : ¬ ((D.zs.length : Int) < 2 ∨ z < (D.zs.length : Int) - 2 ∨ z ≥ (D.zs.length : Int))) {c : Chk} (k : ChkOk c) (hr : rightC c = true) (hz : c.z = (D.zs.length : Int)) (hp : c.p = (D.P : Int)) (hw : whereS D c.num = z)
    {s : Nat} {t : Bool} (hpg : (D.at_ z).pages = pagesC c.ses c.num 0 ((blocksC c).1.take s) ++ (if t = true then [[]] else [])) : readS D z = (c, 0) ∨ readS D z = (ck0, 10) := by
  have eb : blocksC c = (chunks (manyN c.b) (bytesC c), 0) := by unfold blocksC; rw [if_neg (by rw [hr]; simp)]
  have hlen := bytes_len hr
  have h16 := chunks_each hlen
  have hcl := chunks_len (manyN c.b) (bytesC c)
  have hm : 2 ≤ manyN c.b ∧ manyN c.b ≤ 100 := by obtain ⟨_, _, _, hb, _⟩ := right_c hr; unfold manyN lenN tabN; omega
  have hbl : ∀ b ∈ (blocksC c).1.take s, b.length = 16 := fun b hb => by rw [eb] at hb; exact h16 b (List.mem_of_mem_take hb)
  have hl : ((blocksC c).1.take s).length < 4294967296 := by rw [List.length_take, eb]; simp only []; omega
  have bad : badS D z (D.at_ z).pages → readS D z = (ck0, 10) := fun h => by
    unfold readS
    rw [if_neg (by rw [hdn]; simp), if_neg h2, if_pos h]
  cases t with
  | true =>
    right
    refine bad (.inr (.inl ?_))
    rw [hpg, if_pos rfl]
    by_cases h0 : (blocksC c).1.take s = []
    · rw [h0]
      show (heldS [[]]).length ≠ 1
      decide
    · have hf : firstS (pagesC c.ses c.num 0 ((blocksC c).1.take s) ++ [[]]) = (5, c.ses, 0, c.num) := by
        obtain ⟨_, hf⟩ := held_all k.ses k.num hl hbl h0
        cases hx : (blocksC c).1.take s with
        | nil => exact (h0 hx).elim
        | cons b l => rw [hx] at hf; exact hf
      unfold heldS
      rw [hf, col_torn k.ses k.num _ 0 (by omega) hbl, List.length_append, pagesC_len]
      simp
  | false =>
    rw [if_neg (by simp), List.append_nil] at hpg
    by_cases h0 : (blocksC c).1.take s = []
    · right
      exact read_none hdn (by rw [hpg, h0]; rfl) h2
    by_cases hs : s < (blocksC c).1.length
    · right
      obtain ⟨hh, _⟩ := held_all k.ses k.num hl hbl h0
      refine bad (.inl ?_)
      rw [hpg, hh]
      exact less_c k hr hs
    · left
      have e : (blocksC c).1.take s = (blocksC c).1 := List.take_of_length_le (by omega)
      rw [e] at hpg
      have e3 := read_new (D := D) (D' := D) (c := c) hdn rfl rfl k hr hz hp (by rw [hw]; exact hpg)
      · rw [hw] at e3; exact e3
/- WHAT A CRASH LEAVES. -/
theorem crash_at (D : Dev) (keep : List Int) (tear : List Bool) {y : Nat} (hy : y < D.zs.length) : (D.crash keep tear).at_ (y : Int) = (D.zs[y]).crash keep tear y := by
  rw [at_of (by simpa [Dev.crash] using hy)]
  simp [Dev.crash]
theorem crash_pages (Z : Zn) (keep : List Int) (tear : List Bool) (i : Nat) : ∃ s t, (Z.crash keep tear i).pages = Z.pages.take s ++ (if t = true then [[]] else []) :=
  ⟨Z.stay keep i, Z.torn keep tear i, rfl⟩
theorem crash_sure {Z : Zn} (keep : List Int) (tear : List Bool) (i : Nat) (hs : Z.sure = Z.pages.length) : (Z.crash keep tear i).pages = Z.pages := by
  have h1 : Z.stay keep i = Z.pages.length := by
    unfold Zn.stay
    split <;> omega
  have h2 : Z.torn keep tear i = false := by
    unfold Zn.torn
    rw [h1]; simp
  simp only [Zn.crash, h1, h2, List.take_length]
  simp
/-- A device all whose pages are sure. -/
structure Tn (D : Dev) (z p : Int) : Prop where
  ok : DevOk D
  down : D.down = false
  zs : (D.zs.length : Int) = z
  P : (D.P : Int) = p
  sure : ∀ Z ∈ D.zs, Z.sure = Z.pages.length
/-- c was written last; the other slot has what was written ahead of it, or nothing. -/
def Holds (D : Dev) (z : Int) (c : Chk) : Prop := readS D (z - 2 + c.num % 2) = (c, 0) ∧ (readS D (z - 2 + (1 - c.num % 2)) = (ck0, 10) ∨ ∃ c' : Chk, U32 c'.num ∧ readS D (z - 2 + (1 - c.num % 2)) = (c', 0) ∧ c.num = (c'.num + 1) % 4294967296)
theorem newest_holds {D : Dev} {z : Int} (hz : (D.zs.length : Int) = z) (h2 : 2 ≤ z) {c : Chk} (h : Holds D z c) : newestS D = (c, 0) := by
  obtain ⟨h1, h3⟩ := h
  have hm : c.num % 2 = 0 ∨ c.num % 2 = 1 := by omega
  unfold newestS
  rw [hz, if_neg (by omega)]
  rcases hm with hm | hm
  · rw [hm] at h1 h3
    have e1 : z - 2 + 0 = z - 2 := by omega
    have e2 : z - 2 + (1 - 0) = z - 1 := by omega
    rw [e1] at h1; rw [e2] at h3
    rcases h3 with h3 | ⟨c', hc', h3, hn⟩
    · rw [h1, h3, if_neg (by rintro (h | h); exact absurd (show (0 : Int) = 7 from h) (by decide); exact h.1 rfl), if_neg (by rintro (h | h); exact h rfl; exact absurd h.1 (by decide))]
    · unfold U32 at hc'
      have hb : behindB c'.num c.num = false := by
        unfold behindB
        rw [if_neg (by omega), if_neg (by omega)]
      rw [h1, h3, if_neg (by rintro (h | h); exact absurd (show (0 : Int) = 7 from h) (by decide); exact h.1 rfl), if_neg (by rintro (h | h); exact h rfl; exact absurd (hb.symm.trans h.2) (by decide))]
  · rw [hm] at h1 h3
    have e1 : z - 2 + 1 = z - 1 := by omega
    have e2 : z - 2 + (1 - 1) = z - 2 := by omega
    rw [e1] at h1; rw [e2] at h3
    rcases h3 with h3 | ⟨c', hc', h3, hn⟩
    · rw [h1, h3, if_neg (by rintro (h | h); exact absurd (show (10 : Int) = 7 from h) (by decide); exact h.2 rfl), if_pos (.inl (by decide))]
    · unfold U32 at hc'
      have hb : behindB c.num c'.num = true := by
        unfold behindB
        rw [if_pos (by omega)]
      rw [h1, h3, if_neg (by rintro (h | h); exact absurd (show (0 : Int) = 7 from h) (by decide); exact h.1 rfl), if_pos (.inr ⟨rfl, hb⟩)]
theorem newest_none {D : Dev} {z : Int} (hz : (D.zs.length : Int) = z) (h2 : 2 ≤ z) (h : ∀ k : Int, 0 ≤ k ∧ k < 2 → readS D (z - 2 + k) = (ck0, 10)) : newestS D = (ck0, 10) := by
  have a := h 0 (by omega)
  have b := h 1 (by omega)
  have e1 : z - 2 + 0 = z - 2 := by omega
  have e2 : z - 2 + 1 = z - 1 := by omega
  rw [e1] at a; rw [e2] at b
  unfold newestS
  rw [hz, if_neg (by omega), a, b, if_pos (.inr ⟨by decide, by decide⟩)]
/-- What stands ahead of a write: nothing, or what was written last. -/
def Ahead (D : Dev) (z : Int) (last : Option Chk) (c : Chk) : Prop := match last with
  | none => ∀ k : Int, 0 ≤ k ∧ k < 2 → readS D (z - 2 + k) = (ck0, 10)
  | some b => U32 b.num ∧ Holds D z b ∧ c.num = (b.num + 1) % 4294967296
theorem wrote_at {D : Dev} {w y : Nat} {pages : List (List Int)} (hy : y < D.zs.length) : (wrote D w pages)[y]'(by unfold wrote; simpa using hy) = if w = y then ⟨pages, 0, false⟩ else D.zs[y] := by
  unfold wrote
  rw [List.getElem_set]
theorem where_slot {D : Dev} {z : Int} (hz : (D.zs.length : Int) = z) (h2 : 11 ≤ z) (n : Int) : ∃ w : Nat, whereS D n = (w : Int) ∧ w < D.zs.length ∧ (w : Int) = z - 2 + n % 2 := by
  have : 0 ≤ n % 2 ∧ n % 2 < 2 := by omega
  unfold whereS
  exact ⟨((D.zs.length : Int) - 2 + n % 2).toNat, by omega, by omega, by omega⟩
/-- A write that was done. -/
theorem step_ok {D D' : Dev} {z p : Int} (t : Tn D z p) (h11 : 11 ≤ z) {last : Option Chk} {c : Chk} (k : ChkOk c) (hr : rightC c = true) (ez : c.z = z) (ep : c.p = p) (ha : Ahead D z last c) (hw : writeS D c = (D', 0)) : Tn D' z p ∧ Holds D' z c := by
  obtain ⟨w, hww, hwl, hwz⟩ := where_slot t.zs h11 c.num
  have hd := DevOk.write t.ok k
  rw [hw] at hd
  rcases write_turn t.ok t.down hr (ez.trans t.zs.symm) (ep.trans t.P.symm) hww hwl with ⟨E, he, hP, hdn, hzs⟩ | ⟨E, he, _⟩
  rotate_left
  · rw [hw] at he; exact absurd (Prod.mk.inj he).2 (by decide)
  rw [hw] at he
  obtain rfl := (Prod.mk.inj he).1
  have hlen : D'.zs.length = D.zs.length := by rw [hzs, List.length_map]; unfold wrote; simp
  have hat : ∀ y : Nat, y < D.zs.length → (D'.at_ (y : Int)).pages = if w = y then pagesC c.ses c.num 0 (blocksC c).1 else (D.at_ (y : Int)).pages := fun y hy => by
    rw [at_of (by omega), at_of hy]
    have : D'.zs[y]'(by omega) = ((wrote D w (pagesC c.ses c.num 0 (blocksC c).1)).map Zn.settle)[y]'(by rw [List.length_map]; unfold wrote; simpa using hy) := by simp only [hzs]
    rw [this, List.getElem_map, wrote_at hy]
    split <;> rfl
  have hm : 0 ≤ c.num % 2 ∧ c.num % 2 < 2 := by omega
  have rn := read_new (D := D) (D' := D') hdn hlen hP k hr (ez.trans t.zs.symm) (ep.trans t.P.symm) (by rw [hww, hat w hwl, if_pos rfl])
  rw [hww, hwz] at rn
  refine ⟨⟨hd, hdn, by rw [hlen]; exact t.zs, by rw [hP]; exact t.P, fun Z hZ => ?_⟩, rn, ?_⟩
  · rw [hzs] at hZ
    obtain ⟨Y, _, rfl⟩ := List.mem_map.1 hZ
    rfl
  · have hzs' := t.zs
    obtain ⟨y, hy⟩ := Int.eq_ofNat_of_zero_le (show 0 ≤ z - 2 + (1 - c.num % 2) by omega)
    have hyl : y < D.zs.length := by omega
    have hne : w ≠ y := by omega
    have same : readS D' (z - 2 + (1 - c.num % 2)) = readS D (z - 2 + (1 - c.num % 2)) := by
      rw [hy]
      exact read_same (by rw [hdn, t.down]) hlen hP (by rw [hat y hyl, if_neg hne])
    rw [same]
    cases last with
    | none => exact .inl (ha (1 - c.num % 2) (by omega))
    | some b =>
      obtain ⟨hb, ⟨h1, _⟩, hn⟩ := ha
      right
      unfold U32 at hb
      refine ⟨b, hb, ?_, hn⟩
      have e : 1 - c.num % 2 = b.num % 2 := by omega
      rw [e]; exact h1
/-- A write in which the power went, and then a crash. -/
theorem step_fail {D D' : Dev} {z p : Int} (t : Tn D z p) (h11 : 11 ≤ z) {b c : Chk} (k : ChkOk c) (hr : rightC c = true) (ez : c.z = z) (ep : c.p = p) (ha : Ahead D z (some b) c) (hw : writeS D c = (D', 7)) (keep : List Int) (tear : List Bool) :
    newestS (D'.crash keep tear) = (b, 0) ∨ newestS (D'.crash keep tear) = (c, 0) := by
  obtain ⟨w, hww, hwl, hwz⟩ := where_slot t.zs h11 c.num
  have hzs' := t.zs
  have hm : 0 ≤ c.num % 2 ∧ c.num % 2 < 2 := by omega
  obtain ⟨hb, ⟨h1, h3⟩, hn⟩ := ha
  have e : 1 - c.num % 2 = b.num % 2 := by unfold U32 at hb; omega
  have e' : 1 - b.num % 2 = c.num % 2 := by omega
  rcases write_turn t.ok t.down hr (ez.trans t.zs.symm) (ep.trans t.P.symm) hww hwl with ⟨E, he, _⟩ | ⟨E, he, hP, hzs⟩
  · rw [hw] at he; exact absurd (Prod.mk.inj he).2 (by decide)
  rw [hw] at he
  obtain rfl := (Prod.mk.inj he).1
  have hlen : D'.zs.length = D.zs.length := by
    rcases hzs with hzs | ⟨j, _, hzs⟩
    · rw [hzs]
    · rw [hzs]; unfold wrote; simp
  have hcl : (D'.crash keep tear).zs.length = D.zs.length := by rw [← hlen]; simp [Dev.crash]
  have hcP : (D'.crash keep tear).P = D.P := hP
  have hcd : (D'.crash keep tear).down = false := rfl
  obtain ⟨y, hy⟩ := Int.eq_ofNat_of_zero_le (show 0 ≤ z - 2 + b.num % 2 by omega)
  have hyl : y < D.zs.length := by omega
  have hne : w ≠ y := by omega
  have same : readS (D'.crash keep tear) (z - 2 + b.num % 2) = (b, 0) := by
    rw [← h1, hy]
    refine read_same (by rw [hcd, t.down]) hcl hcP ?_
    rw [crash_at _ _ _ (by omega), at_of hyl]
    have hz : D'.zs[y]'(by omega) = D.zs[y] := by
      rcases hzs with hzs | ⟨j, _, hzs⟩
      · simp only [hzs]
      · simp only [hzs]; rw [wrote_at hyl, if_neg hne]
    rw [hz]
    exact crash_sure keep tear y (t.sure _ (List.getElem_mem hyl))
  have other : readS (D'.crash keep tear) (z - 2 + c.num % 2) = (c, 0) ∨ readS (D'.crash keep tear) (z - 2 + c.num % 2) = (ck0, 10) ∨ readS (D'.crash keep tear) (z - 2 + c.num % 2) = readS D (z - 2 + c.num % 2) := by
    rw [← hwz]
    rcases hzs with hzs | ⟨j, hj, hzs⟩
    · right; right
      refine read_same (by rw [hcd, t.down]) hcl hcP ?_
      rw [crash_at _ _ _ (by omega), at_of hwl]
      simp only [hzs]
      exact crash_sure keep tear w (t.sure _ (List.getElem_mem hwl))
    · have hpg : ∃ s tt, ((D'.crash keep tear).at_ (w : Int)).pages = pagesC c.ses c.num 0 ((blocksC c).1.take s) ++ (if tt = true then [[]] else []) := by
        rw [crash_at _ _ _ (by omega)]
        simp only [hzs]
        rw [wrote_at hwl, if_pos rfl]
        obtain ⟨s, tt, e⟩ := crash_pages ⟨pagesC c.ses c.num 0 ((blocksC c).1.take j), 0, false⟩ keep tear w
        rw [e]
        refine ⟨min s j, tt, ?_⟩
        simp only []
        rw [pagesC_take, List.take_take]
      obtain ⟨s, tt, hpg⟩ := hpg
      rcases read_part (D := D'.crash keep tear) hcd (z := (w : Int)) (by rw [hcl]; omega) k hr (by rw [hcl]; exact ez.trans t.zs.symm) (by rw [hcP]; exact ep.trans t.P.symm) (by unfold whereS at hww ⊢; rw [hcl]; exact hww) hpg with h | h
      · exact .inl h
      · exact .inr (.inl h)
  have hz2 : ((D'.crash keep tear).zs.length : Int) = z := by rw [hcl]; exact t.zs
  rcases other with h | h | h
  · right
    exact newest_holds hz2 (by omega) ⟨h, .inr ⟨b, hb, by rw [e]; exact same, hn⟩⟩
  · left
    exact newest_holds hz2 (by omega) ⟨same, .inl (by rw [e']; exact h)⟩
  · left
    refine newest_holds hz2 (by omega) ⟨same, ?_⟩
    rw [e', h, ← e']
    exact h3
/-- A crash where all is sure. -/
theorem crash_holds {D : Dev} {z p : Int} (t : Tn D z p) (keep : List Int) (tear : List Bool) (y : Int) (hy : 0 ≤ y ∧ y < z) : readS (D.crash keep tear) y = readS D y := by
  obtain ⟨n, rfl⟩ := Int.eq_ofNat_of_zero_le hy.1
  have hz := t.zs
  have hn : n < D.zs.length := by omega
  refine read_same (D := D) (D' := D.crash keep tear) (by rw [t.down]; rfl) (by simp [Dev.crash]) rfl ?_
  rw [crash_at _ _ _ hn, at_of hn]
  exact crash_sure keep tear n (t.sure _ (List.getElem_mem hn))
end Go.Proofs.YthimfpkkdhpceaaGreatDoor.Slt
/-
  The formulas of a law of slot. Each formula checked by the kernel. Printed by a program of this repo.
-/
namespace Go.Proofs.YthimfpkkdhpceaaGreatDoor.W
open Go.Pl

-- function 4
set_option maxRecDepth 100000 in
def F4 (g_0_0 : Int) (g_0_1 : Int) (g_0_2 : Int) (number_1 : Int) (l_2 : Option Addr) (l_2l l_2c : Nat) (fuse_3 : Int) (keep_4 : Option Addr) (keep_4l keep_4c : Nat) (tear_5 : Option Addr) (tear_5l tear_5c : Nat) (K : Value → Heap → Prop) (h0 : Heap) : Prop := (
  newW (.cells #[.int .i64 g_0_0, .int .i64 g_0_1, .int .i64 g_0_2] 37) (fun a1 h2 =>
  callT Tryz.prog 6 [] [.sc .bool] (fun (r3 : Bool) h4 =>
  br (!r3)
  (K (.bool false) h4)
  (cutT [] (fun (K5 : Unit → Heap → Prop) h11 =>
  ldAggW [.int .i64, .int .i64, .int .i64] a1 (fun (x6 : Int × Int × Int) =>
  callT Tryz.prog 24 [.agg #[.int .i64 x6.1, .int .i64 x6.2.1, .int .i64 x6.2.2]] [.sc .bool] (fun (r7 : Bool) h8 =>
  br (!r7)
  (K (.bool true) h8)
  (callT Tryz.prog 7 [.slice l_2 l_2l l_2c] [.sc .bool] (fun (r9 : Bool) h10 =>
  br r9
  (K (.bool true) h10)
  (br (decide (fuse_3 < (0 : Int)))
  (K (.bool true) h10)
  (br (decide ((((keep_4l : Nat) : Int)) > (100 : Int)))
  (K (.bool true) h10)
  (br (decide ((((tear_5l : Nat) : Int)) > (100 : Int)))
  (K (.bool true) h10)
  (K5 () h10))))) h8)) h11) h11) (fun (_s12 : Unit) _ h13 =>
  ldW (.int .i64) (Addr.add a1 0) (fun (x14 : Int) =>
  ldW (.int .i64) (Addr.add a1 1) (fun (x15 : Int) =>
  callT Tryz.prog 8 [.int .i64 x14, .int .i64 x15] [.sc .ptr, .sc .any] (fun (r16 : (Option Addr) × Value) h17 =>
  br (Option.isNone r16.1)
  (K (.bool false) h17)
  (newW (.cells (zeroC Tryz.prog 40) 40) (fun a18 h19 =>
  loopT [.sc .bool, .sc (.int .i64)] (fun (s21 : Bool × Int) _ (K20 : (Bool × Int) → Heap → Prop) h22 =>
  br (decide (s21.2 < (((l_2l : Nat) : Int))))
  (ptrW l_2 (fun a23 =>
  idxW s21.2 l_2l true (ldAggW [.int .u32, .int .u32, .int .u32, .int .i64, .int .i64, .int .i64, .slice] (Addr.add a23 (Int.toNat s21.2 * 7)) (fun (x24 : Int × Int × Int × Int × Int × Int × (Option Addr × Nat × Nat)) =>
  newW (.cells (zeroC Tryz.prog 40) 40) (fun a25 h26 =>
  stLW a25 [.int .u32 x24.1, .int .u32 x24.2.1, .int .u32 x24.2.2.1, .int .i64 x24.2.2.2.1, .int .i64 x24.2.2.2.2.1, .int .i64 x24.2.2.2.2.2.1, .slice x24.2.2.2.2.2.2.1 x24.2.2.2.2.2.2.2.1 x24.2.2.2.2.2.2.2.2] (fun h27 =>
  ldAggW [.int .i64, .int .i64, .int .i64] a1 (fun (x28 : Int × Int × Int) =>
  stLW (Addr.add a25 3) [.int .i64 x28.1, .int .i64 x28.2.1, .int .i64 x28.2.2] (fun h29 =>
  stW (Addr.add a25 0) (.int .u32 (IntKind.wrap .u32 (number_1 + (IntKind.wrap .u32 s21.2)))) (fun h30 =>
  ldW .slice (Addr.add a25 6) (fun (x31 : Option Addr × Nat × Nat) =>
  ldW (.int .i64) (Addr.add a1 2) (fun (x32 : Int) =>
  callQ Tryz.prog 25 [.int .i64 x32] [.sc (.int .i64)] (fun (r33 : Int) =>
  br ((((x31.2.1 : Nat) : Int)) != r33)
  (K (.bool true) h30)
  (cutT [] (fun (K34 : Unit → Heap → Prop) h37 =>
  br (s21.2 == (1 : Int))
  (callT Tryz.prog 10 [.pointer r16.1, .int .i64 fuse_3] [] (fun (_r35 : Unit) h36 =>
  K34 () h36) h37)
  (K34 () h37)) (fun (_s38 : Unit) _ h39 =>
  ldAggW [.int .u32, .int .u32, .int .u32, .int .i64, .int .i64, .int .i64, .slice] a25 (fun (x40 : Int × Int × Int × Int × Int × Int × (Option Addr × Nat × Nat)) =>
  callT Tryz.prog 13 [.pointer r16.1, .agg #[.int .u32 x40.1, .int .u32 x40.2.1, .int .u32 x40.2.2.1, .int .i64 x40.2.2.2.1, .int .i64 x40.2.2.2.2.1, .int .i64 x40.2.2.2.2.2.1, .slice x40.2.2.2.2.2.2.1 x40.2.2.2.2.2.2.2.1 x40.2.2.2.2.2.2.2.2]] [.sc .any] (fun (r41 : Value) h42 =>
  ifW r41 (br (isNilV r41)
  (ldAggW [.int .u32, .int .u32, .int .u32, .int .i64, .int .i64, .int .i64, .slice] a25 (fun (x43 : Int × Int × Int × Int × Int × Int × (Option Addr × Nat × Nat)) =>
  stLW a18 [.int .u32 x43.1, .int .u32 x43.2.1, .int .u32 x43.2.2.1, .int .i64 x43.2.2.2.1, .int .i64 x43.2.2.2.2.1, .int .i64 x43.2.2.2.2.2.1, .slice x43.2.2.2.2.2.2.1 x43.2.2.2.2.2.2.2.1 x43.2.2.2.2.2.2.2.2] (fun h44 =>
  K20 (true, (IntKind.wrap .i64 (s21.2 + (1 : Int)))) h44) h42) h42)
  (callT Tryz.prog 26 [.pointer r16.1, .slice keep_4 keep_4l keep_4c, .slice tear_5 tear_5l tear_5c] [] (fun (_r45 : Unit) h46 =>
  callT Tryz.prog 20 [.pointer r16.1] [.agg [.int .u32, .int .u32, .int .u32, .int .i64, .int .i64, .int .i64, .slice], .sc .any] (fun (r47 : (Int × Int × Int × Int × Int × Int × (Option Addr × Nat × Nat)) × Value) h48 =>
  newW (.cells (zeroC Tryz.prog 40) 40) (fun a49 h50 =>
  stLW a49 [.int .u32 r47.1.1, .int .u32 r47.1.2.1, .int .u32 r47.1.2.2.1, .int .i64 r47.1.2.2.2.1, .int .i64 r47.1.2.2.2.2.1, .int .i64 r47.1.2.2.2.2.2.1, .slice r47.1.2.2.2.2.2.2.1 r47.1.2.2.2.2.2.2.2.1 r47.1.2.2.2.2.2.2.2.2] (fun h51 =>
  callT Tryz.prog 12 [r41] [.sc (.int .i64)] (fun (r52 : Int) h53 =>
  br (r52 == (7 : Int))
  (br s21.1
  (ifW r47.2 (br (isNilV r47.2)
  (ldAggW [.int .u32, .int .u32, .int .u32, .int .i64, .int .i64, .int .i64, .slice] a49 (fun (x54 : Int × Int × Int × Int × Int × Int × (Option Addr × Nat × Nat)) =>
  ldAggW [.int .u32, .int .u32, .int .u32, .int .i64, .int .i64, .int .i64, .slice] a18 (fun (x55 : Int × Int × Int × Int × Int × Int × (Option Addr × Nat × Nat)) =>
  callT Tryz.prog 27 [.agg #[.int .u32 x54.1, .int .u32 x54.2.1, .int .u32 x54.2.2.1, .int .i64 x54.2.2.2.1, .int .i64 x54.2.2.2.2.1, .int .i64 x54.2.2.2.2.2.1, .slice x54.2.2.2.2.2.2.1 x54.2.2.2.2.2.2.2.1 x54.2.2.2.2.2.2.2.2], .agg #[.int .u32 x55.1, .int .u32 x55.2.1, .int .u32 x55.2.2.1, .int .i64 x55.2.2.2.1, .int .i64 x55.2.2.2.2.1, .int .i64 x55.2.2.2.2.2.1, .slice x55.2.2.2.2.2.2.1 x55.2.2.2.2.2.2.2.1 x55.2.2.2.2.2.2.2.2]] [.sc .bool] (fun (r56 : Bool) h57 =>
  br r56
  (K (.bool true) h57)
  (ldAggW [.int .u32, .int .u32, .int .u32, .int .i64, .int .i64, .int .i64, .slice] a49 (fun (x58 : Int × Int × Int × Int × Int × Int × (Option Addr × Nat × Nat)) =>
  ldAggW [.int .u32, .int .u32, .int .u32, .int .i64, .int .i64, .int .i64, .slice] a25 (fun (x59 : Int × Int × Int × Int × Int × Int × (Option Addr × Nat × Nat)) =>
  callT Tryz.prog 27 [.agg #[.int .u32 x58.1, .int .u32 x58.2.1, .int .u32 x58.2.2.1, .int .i64 x58.2.2.2.1, .int .i64 x58.2.2.2.2.1, .int .i64 x58.2.2.2.2.2.1, .slice x58.2.2.2.2.2.2.1 x58.2.2.2.2.2.2.2.1 x58.2.2.2.2.2.2.2.2], .agg #[.int .u32 x59.1, .int .u32 x59.2.1, .int .u32 x59.2.2.1, .int .i64 x59.2.2.2.1, .int .i64 x59.2.2.2.2.1, .int .i64 x59.2.2.2.2.2.1, .slice x59.2.2.2.2.2.2.1 x59.2.2.2.2.2.2.2.1 x59.2.2.2.2.2.2.2.2]] [.sc .bool] (fun (r60 : Bool) h61 =>
  K (.bool r60) h61) h57) h57) h57)) h53) h53) h53)
  (K (.bool false) h53)))
  (K (.bool false) h53))
  (K (.bool false) h53)) h51) h50) h48) h46) h42))) h39) h39) h30)) h30) h30) h30) h29) h27) h27) h26) h22) h22)))
  (callT Tryz.prog 26 [.pointer r16.1, .slice keep_4 keep_4l keep_4c, .slice tear_5 tear_5l tear_5c] [] (fun (_r62 : Unit) h63 =>
  callT Tryz.prog 20 [.pointer r16.1] [.agg [.int .u32, .int .u32, .int .u32, .int .i64, .int .i64, .int .i64, .slice], .sc .any] (fun (r64 : (Int × Int × Int × Int × Int × Int × (Option Addr × Nat × Nat)) × Value) h65 =>
  newW (.cells (zeroC Tryz.prog 40) 40) (fun a66 h67 =>
  stLW a66 [.int .u32 r64.1.1, .int .u32 r64.1.2.1, .int .u32 r64.1.2.2.1, .int .i64 r64.1.2.2.2.1, .int .i64 r64.1.2.2.2.2.1, .int .i64 r64.1.2.2.2.2.2.1, .slice r64.1.2.2.2.2.2.2.1 r64.1.2.2.2.2.2.2.2.1 r64.1.2.2.2.2.2.2.2.2] (fun h68 =>
  br (!s21.1)
  (callT Tryz.prog 12 [r64.2] [.sc (.int .i64)] (fun (r69 : Int) h70 =>
  br (r69 == (10 : Int))
  (K (.bool true) h70)
  (br s21.1
  (ifW r64.2 (br (isNilV r64.2)
  (ldAggW [.int .u32, .int .u32, .int .u32, .int .i64, .int .i64, .int .i64, .slice] a66 (fun (x71 : Int × Int × Int × Int × Int × Int × (Option Addr × Nat × Nat)) =>
  ldAggW [.int .u32, .int .u32, .int .u32, .int .i64, .int .i64, .int .i64, .slice] a18 (fun (x72 : Int × Int × Int × Int × Int × Int × (Option Addr × Nat × Nat)) =>
  callT Tryz.prog 27 [.agg #[.int .u32 x71.1, .int .u32 x71.2.1, .int .u32 x71.2.2.1, .int .i64 x71.2.2.2.1, .int .i64 x71.2.2.2.2.1, .int .i64 x71.2.2.2.2.2.1, .slice x71.2.2.2.2.2.2.1 x71.2.2.2.2.2.2.2.1 x71.2.2.2.2.2.2.2.2], .agg #[.int .u32 x72.1, .int .u32 x72.2.1, .int .u32 x72.2.2.1, .int .i64 x72.2.2.2.1, .int .i64 x72.2.2.2.2.1, .int .i64 x72.2.2.2.2.2.1, .slice x72.2.2.2.2.2.2.1 x72.2.2.2.2.2.2.2.1 x72.2.2.2.2.2.2.2.2]] [.sc .bool] (fun (r73 : Bool) h74 =>
  K (.bool r73) h74) h70) h70) h70)
  (K (.bool false) h70)))
  (K (.bool false) h70))) h68)
  (br s21.1
  (ifW r64.2 (br (isNilV r64.2)
  (ldAggW [.int .u32, .int .u32, .int .u32, .int .i64, .int .i64, .int .i64, .slice] a66 (fun (x75 : Int × Int × Int × Int × Int × Int × (Option Addr × Nat × Nat)) =>
  ldAggW [.int .u32, .int .u32, .int .u32, .int .i64, .int .i64, .int .i64, .slice] a18 (fun (x76 : Int × Int × Int × Int × Int × Int × (Option Addr × Nat × Nat)) =>
  callT Tryz.prog 27 [.agg #[.int .u32 x75.1, .int .u32 x75.2.1, .int .u32 x75.2.2.1, .int .i64 x75.2.2.2.1, .int .i64 x75.2.2.2.2.1, .int .i64 x75.2.2.2.2.2.1, .slice x75.2.2.2.2.2.2.1 x75.2.2.2.2.2.2.2.1 x75.2.2.2.2.2.2.2.2], .agg #[.int .u32 x76.1, .int .u32 x76.2.1, .int .u32 x76.2.2.1, .int .i64 x76.2.2.2.1, .int .i64 x76.2.2.2.2.1, .int .i64 x76.2.2.2.2.2.1, .slice x76.2.2.2.2.2.2.1 x76.2.2.2.2.2.2.2.1 x76.2.2.2.2.2.2.2.2]] [.sc .bool] (fun (r77 : Bool) h78 =>
  K (.bool r77) h78) h68) h68) h68)
  (K (.bool false) h68)))
  (K (.bool false) h68))) h67) h65) h63) h22)) (false, (0 : Int)) h19) h17)) h13) h13) h13) h4)) h2) h0)
set_option maxRecDepth 100000 in
theorem F4_eq (g_0_0 : Int) (g_0_1 : Int) (g_0_2 : Int) (number_1 : Int) (l_2 : Option Addr) (l_2l l_2c : Nat) (fuse_3 : Int) (keep_4 : Option Addr) (keep_4l keep_4c : Nat) (tear_5 : Option Addr) (tear_5l tear_5c : Nat) (K : Value → Heap → Prop) (h0 : Heap) : funWE Tryz.prog 4 (.seq (.leaf) (.seq (.seq (.leaf) (.cond (.seq (.leaf) (.leaf)) (.leaf))) (.cut [] (.seq (.leaf) (.cond (.seq (.leaf) (.leaf)) (.leaf))) (.seq (.leaf) (.seq (.seq (.leaf) (.cond (.seq (.leaf) (.leaf)) (.leaf))) (.seq (.leaf) (.seq (.leaf) (.seq (.seq (.leaf) (.block (.loop [(16, .sc .bool), (59, .sc (.int .i64))] (.seq (.leaf) (.seq (.cond (.leaf) (.leaf)) (.seq (.block (.seq (.leaf) (.seq (.leaf) (.seq (.seq (.draw (odp [0, 1, 2, 3, 4, 5, 6] .nil) [5]) (.cond (.seq (.leaf) (.leaf)) (.leaf))) (.cut [] (.seq (.leaf) (.cond (.leaf) (.leaf))) (.seq (.leaf) (.seq (.seq (.leaf) (.cond (.seq (.leaf) (.leaf)) (.leaf))) (.seq (.leaf) (.seq (.leaf) (.seq (.leaf) (.leaf))))))))))) (.leaf))))))) (.seq (.leaf) (.seq (.leaf) (.seq (.leaf) (.leaf)))))))))))) [.agg #[.int .i64 g_0_0, .int .i64 g_0_1, .int .i64 g_0_2], .int .u32 number_1, .slice l_2 l_2l l_2c, .int .i64 fuse_3, .slice keep_4 keep_4l keep_4c, .slice tear_5 tear_5l tear_5c] K h0 = F4 g_0_0 g_0_1 g_0_2 number_1 l_2 l_2l l_2c fuse_3 keep_4 keep_4l keep_4c tear_5 tear_5l tear_5c K h0 := by kernel_rfl

end Go.Proofs.YthimfpkkdhpceaaGreatDoor.W
/-
  The formulas of the reference of geo. Each formula checked by the kernel. Printed by a program of this repo.
-/
namespace Go.Proofs.YthimfpkkdhpceaaGreatDoor.W
open Go.Pl

-- function 60
set_option maxRecDepth 100000 in
def F60 (zones_0 : Int) (pages_1 : Int) (K : Value → Heap → Prop) (h0 : Heap) : Prop := (
  cutT [] (fun (K1 : Unit → Heap → Prop) h2 =>
  br (decide (zones_0 < (11 : Int)))
  (K (.int .i64 0) h2)
  (br (decide (zones_0 > (24 : Int)))
  (K (.int .i64 0) h2)
  (br (decide (pages_1 < (4 : Int)))
  (K (.int .i64 0) h2)
  (br (decide (pages_1 > (16 : Int)))
  (K (.int .i64 0) h2)
  (K1 () h2))))) (fun (_s3 : Unit) _ h4 =>
  loopT [.sc (.int .i64), .sc (.int .i64)] (fun (s6 : Int × Int) _ (K5 : (Int × Int) → Heap → Prop) h7 =>
  br (decide (s6.2 ≤ (64 : Int)))
  (callT Tryz.prog 105 [.int .i64 s6.2] [.sc (.int .i64)] (fun (r8 : Int) h9 =>
  br (decide (r8 ≤ pages_1))
  (callT Tryz.prog 105 [.int .i64 s6.2] [.sc (.int .i64)] (fun (r10 : Int) h11 =>
  br (decide ((IntKind.wrap .i64 ((2 : Int) * (IntKind.wrap .i64 (s6.2 + r10)))) ≤ (IntKind.wrap .i64 ((IntKind.wrap .i64 (zones_0 - (7 : Int))) * pages_1))))
  (K5 (s6.2, (IntKind.wrap .i64 (s6.2 + (1 : Int)))) h11)
  (K5 (s6.1, (IntKind.wrap .i64 (s6.2 + (1 : Int)))) h11)) h9)
  (K5 (s6.1, (IntKind.wrap .i64 (s6.2 + (1 : Int)))) h9)) h7)
  (K (.int .i64 s6.1) h7)) ((0 : Int), (1 : Int)) h4) h0)
set_option maxRecDepth 100000 in
theorem F60_eq (zones_0 : Int) (pages_1 : Int) (K : Value → Heap → Prop) (h0 : Heap) : funWE Tryz.prog 60 (.seq (.leaf) (.seq (.leaf) (.cut [] (.seq (.leaf) (.cond (.seq (.leaf) (.leaf)) (.leaf))) (.seq (.seq (.leaf) (.block (.loop [(5, .sc (.int .i64)), (6, .sc (.int .i64))] (.seq (.seq (.leaf) (.cond (.leaf) (.leaf))) (.seq (.block (.seq (.leaf) (.cond (.leaf) (.leaf)))) (.leaf)))))) (.seq (.leaf) (.leaf)))))) [.int .i64 zones_0, .int .i64 pages_1] K h0 = F60 zones_0 pages_1 K h0 := by kernel_rfl

-- function 24
set_option maxRecDepth 100000 in
def F24 (g_0_0 : Int) (g_0_1 : Int) (g_0_2 : Int) (K : Value → Heap → Prop) (h0 : Heap) : Prop := (
  newW (.cells #[.int .i64 g_0_0, .int .i64 g_0_1, .int .i64 g_0_2] 44) (fun a1 h2 =>
  ldW (.int .i64) (Addr.add a1 2) (fun (x3 : Int) =>
  br (decide (x3 ≥ (1 : Int)))
  (ldW (.int .i64) (Addr.add a1 2) (fun (x4 : Int) =>
  ldW (.int .i64) (Addr.add a1 0) (fun (x5 : Int) =>
  ldW (.int .i64) (Addr.add a1 1) (fun (x6 : Int) =>
  callT Tryz.prog 60 [.int .i64 x5, .int .i64 x6] [.sc (.int .i64)] (fun (r7 : Int) h8 =>
  (cellH h8 (Addr.add a1 2) = some (.int .i64 x4) ∧ K (.bool (decide (x4 ≤ r7))) h8)) h2) h2) h2) h2)
  (K (.bool false) h2)) h2) h0)
set_option maxRecDepth 100000 in
theorem F24_eq (g_0_0 : Int) (g_0_1 : Int) (g_0_2 : Int) (K : Value → Heap → Prop) (h0 : Heap) : funWE Tryz.prog 24 (.seq (.leaf) (.seq (.draw (odp [0, 1, 2, 3, 4, 5, 6, 7, 8, 9, 10, 11, 12, 13] .nil) [200005]) (.leaf))) [.agg #[.int .i64 g_0_0, .int .i64 g_0_1, .int .i64 g_0_2]] K h0 = F24 g_0_0 g_0_1 g_0_2 K h0 := by kernel_rfl

-- function 105
set_option maxRecDepth 100000 in
def F105 (blocks_0 : Int) (K : Value → Heap → Prop) (h0 : Heap) : Prop := (
  br (decide ((Int.tmod blocks_0 (4 : Int)) > (0 : Int)))
  (K (.int .i64 (IntKind.wrap .i64 ((IntKind.wrap .i64 (Int.tdiv blocks_0 (4 : Int))) + (1 : Int)))) h0)
  (K (.int .i64 (IntKind.wrap .i64 (Int.tdiv blocks_0 (4 : Int)))) h0))
set_option maxRecDepth 100000 in
theorem F105_eq (blocks_0 : Int) (K : Value → Heap → Prop) (h0 : Heap) : funWE Tryz.prog 105 (.seq (.leaf) (.seq (.leaf) (.seq (.seq (.leaf) (.cond (.leaf) (.leaf))) (.seq (.leaf) (.leaf))))) [.int .i64 blocks_0] K h0 = F105 blocks_0 K h0 := by kernel_rfl

end Go.Proofs.YthimfpkkdhpceaaGreatDoor.W
/-
  The reference of geo: its contracts.
-/
namespace Go.Proofs.YthimfpkkdhpceaaGreatDoor.R2
open Go.Pl Go.Proofs.YthimfpkkdhpceaaGreatDoor.W Go.Proofs.YthimfpkkdhpceaaGreatDoor.Geo
theorem tab_ok (n : Int) (h : Heap) (h0 : 0 ≤ n) (h1 : n ≤ 1000000) : CallsH Tryz.prog 105 [.int .i64 n] h fun v h' => v = .int .i64 ((n + 3) / 4) ∧ h' = h := by
  refine fun_ok hm' Tryz.func105 (by kernel_rfl) (F105_eq _ _ h) ?_
  unfold F105
  rw [Int.tdiv_eq_ediv_of_nonneg h0, Int.tmod_eq_emod_of_nonneg h0, wr64 (n := n / 4) (by omega) (by omega), wr64 (by omega) (by omega)]
  refine br_of (fun hb => ⟨?_, rfl⟩) (fun hb => ⟨?_, rfl⟩)
  · have := of_decide_eq_true hb
    rw [show n / 4 + 1 = (n + 3) / 4 by omega]
  · have := of_decide_eq_false hb
    rw [show n / 4 = (n + 3) / 4 by omega]
theorem rbound_ok (z p : Int) (h : Heap) : CallsH Tryz.prog 60 [.int .i64 z, .int .i64 p] h fun v h' => v = .int .i64 (boundF z p) ∧ h' = h := by
  refine fun_ok hm' Tryz.func60 (by kernel_rfl) (F60_eq _ _ _ h) ?_
  unfold F60
  have no : ¬ ((11 ≤ z ∧ z ≤ 24) ∧ 4 ≤ p ∧ p ≤ 16) → boundF z p = 0 := fun hh => if_neg hh
  refine cut_q (ts := []) (fun _ h' => h' = h ∧ (11 ≤ z ∧ z ≤ 24) ∧ 4 ≤ p ∧ p ≤ 16) ?_ ?_
  rotate_left
  · intro K hK
    refine br_of (fun h1 => ⟨by rw [no (by have := of_decide_eq_true h1; omega)], rfl⟩) fun h1 => br_of (fun h2 => ⟨by rw [no (by have := of_decide_eq_true h2; omega)], rfl⟩) fun h2 => br_of (fun h3 => ⟨by rw [no (by have := of_decide_eq_true h3; omega)], rfl⟩) fun h3 => br_of (fun h4 => ⟨by rw [no (by have := of_decide_eq_true h4; omega)], rfl⟩) fun h4 => hK () _ ⟨rfl, ?_⟩
    have h1 := of_decide_eq_false h1; have h2 := of_decide_eq_false h2; have h3 := of_decide_eq_false h3; have h4 := of_decide_eq_false h4
    omega
  rintro _ h' ⟨hh, hz, hp⟩ _; subst h'
  have hb : boundF z p = boundFrom z p 64 := if_pos ⟨hz, hp⟩
  have hzp : 0 ≤ (z - 7) * p ∧ (z - 7) * p ≤ 17 * 16 := ⟨Int.mul_nonneg (by omega) (by omega), Int.mul_le_mul (by omega) (by omega) (by omega) (by omega)⟩
  refine ⟨fun (s : Int × Int) h' => h' = h ∧ ∃ i : Nat, s = (boundFrom z p i, ((i + 1 : Nat) : Int)) ∧ i ≤ 64, fun (s : Int × Int) _ => (65 - s.2).toNat, ⟨rfl, 0, rfl, by omega⟩, ?_⟩
  rintro s j h' ⟨hh, i, rfl, hi⟩; subst h'
  have hbl := boundFrom_le z p i
  refine br_of (fun hlt => ?_) (fun hlt => ?_)
  · have hlt : ((i + 1 : Nat) : Int) ≤ 64 := of_decide_eq_true hlt
    have e3 : IntKind.wrap .i64 (((i + 1 : Nat) : Int) + 1) = ((i + 1 + 1 : Nat) : Int) := by rw [wr64 (by omega) (by omega)]; rfl
    have step : ∀ b : Int, b = boundFrom z p (i + 1) → (h = h ∧ ∃ i' : Nat, (b, ((i + 1 + 1 : Nat) : Int)) = (boundFrom z p i', ((i' + 1 : Nat) : Int)) ∧ i' ≤ 64) ∧ ((65 : Int) - ((i + 1 + 1 : Nat) : Int)).toNat < ((65 : Int) - ((i + 1 : Nat) : Int)).toNat := fun b hb => ⟨⟨rfl, i + 1, by rw [hb], by omega⟩, by omega⟩
    have e4 : IntKind.wrap .i64 ((IntKind.wrap .i64 (z - (7 : Int))) * p) = (z - 7) * p := by rw [wr64 (n := z - 7) (by omega) (by omega), wr64 (by omega) (by omega)]
    have e5 : IntKind.wrap .i64 ((2 : Int) * IntKind.wrap .i64 (((i + 1 : Nat) : Int) + (((i + 1 : Nat) : Int) + 3) / 4)) = 2 * (((i + 1 : Nat) : Int) + (((i + 1 : Nat) : Int) + 3) / 4) := by rw [wr64 (n := ((i + 1 : Nat) : Int) + _) (by omega) (by omega), wr64 (by omega) (by omega)]
    refine call_of (tab_ok ((i + 1 : Nat) : Int) h (by omega) (by omega)) ?_
    rintro v h' ⟨rfl, hh⟩; subst h'
    refine ⟨((((i + 1 : Nat) : Int) + 3) / 4 : Int), rfl, br_of (fun h1 => ?_) fun h1 => ?_⟩
    · refine call_of (tab_ok ((i + 1 : Nat) : Int) h (by omega) (by omega)) ?_
      rintro v h' ⟨rfl, hh⟩; subst h'
      refine ⟨((((i + 1 : Nat) : Int) + 3) / 4 : Int), rfl, ?_⟩
      rw [e3, e4, e5]
      have h1 : (((i + 1 : Nat) : Int) + 3) / 4 ≤ p := of_decide_eq_true h1
      refine br_of (fun h2 => step _ ?_) (fun h2 => step _ ?_)
      · have h2 : 2 * (((i + 1 : Nat) : Int) + (((i + 1 : Nat) : Int) + 3) / 4) ≤ (z - 7) * p := of_decide_eq_true h2
        simp only [boundFrom]
        rw [if_pos]
        unfold okB
        rw [decide_eq_true h1, decide_eq_true (by generalize (z - 7) * p = Q at *; omega)]; rfl
      · have h2 : ¬ 2 * (((i + 1 : Nat) : Int) + (((i + 1 : Nat) : Int) + 3) / 4) ≤ (z - 7) * p := of_decide_eq_false h2
        simp only [boundFrom]
        rw [if_neg]
        unfold okB
        rw [decide_eq_false (p := _ ≤ (z - 7) * p / 2) (by generalize (z - 7) * p = Q at *; omega)]; simp
    · rw [e3]
      have h1 : ¬ (((i + 1 : Nat) : Int) + 3) / 4 ≤ p := of_decide_eq_false h1
      refine step _ ?_
      simp only [boundFrom]
      rw [if_neg]
      unfold okB
      rw [decide_eq_false (p := _ ≤ p) h1]; simp
  · have hlt : ¬ ((i + 1 : Nat) : Int) ≤ 64 := of_decide_eq_false hlt
    have : i = 64 := by omega
    subst this
    exact ⟨by rw [hb], rfl⟩
theorem rright_ok (z p b : Int) (h : Heap) : CallsH Tryz.prog 24 [.agg #[.int .i64 z, .int .i64 p, .int .i64 b]] h fun v h' => v = .bool (rightB z p b) ∧ New h h' := by
  refine fun_ok hm' Tryz.func24 (by kernel_rfl) (F24_eq _ _ _ _ h) ?_
  unfold F24
  refine new_of fun h2 b2 n2 s2 => ld_of (c := .int .i64) b (by rw [add_mk, cellH_blk b2]; rfl) (br_of (fun h1 => ?_) fun h1 => ⟨?_, n2⟩)
  · refine ld_of (c := .int .i64) b (by rw [add_mk, cellH_blk b2]; rfl) (ld_of (c := .int .i64) z (by rw [add_mk, cellH_blk b2]; rfl) (ld_of (c := .int .i64) p (by rw [add_mk, cellH_blk b2]; rfl) (call_of (rbound_ok z p h2) ?_)))
    rintro v h' ⟨rfl, hh⟩; subst h'
    refine ⟨boundF z p, rfl, by rw [add_mk, cellH_blk b2]; rfl, ?_, n2⟩
    unfold rightB
    rw [decide_eq_true (p := 1 ≤ b) (of_decide_eq_true h1), Bool.and_true]
  · unfold rightB
    rw [decide_eq_false (p := 1 ≤ b) (of_decide_eq_false h1), Bool.and_false]
end Go.Proofs.YthimfpkkdhpceaaGreatDoor.R2
/-
  SlotTurns.
-/
namespace Go.Proofs.YthimfpkkdhpceaaGreatDoor.Slt
open Go.Pl Go.Proofs.YthimfpkkdhpceaaGreatDoor.W Go.Proofs.YthimfpkkdhpceaaGreatDoor.Byts Go.Proofs.YthimfpkkdhpceaaGreatDoor.Four Go.Proofs.YthimfpkkdhpceaaGreatDoor.Adl Go.Proofs.YthimfpkkdhpceaaGreatDoor.As Go.Proofs.YthimfpkkdhpceaaGreatDoor.Err Go.Proofs.YthimfpkkdhpceaaGreatDoor.Head Go.Proofs.YthimfpkkdhpceaaGreatDoor.HdP Go.Proofs.YthimfpkkdhpceaaGreatDoor.Geo Go.Proofs.YthimfpkkdhpceaaGreatDoor.Zns Go.Proofs.YthimfpkkdhpceaaGreatDoor.ZnsP Go.Proofs.YthimfpkkdhpceaaGreatDoor.Ck Go.Proofs.YthimfpkkdhpceaaGreatDoor.Rng
theorem set_geo (c : Chk) (da : Option Addr) (dc : Nat) (z p b : Int) : setsA (chkA c da dc) (0 + 3) [.int .i64 z, .int .i64 p, .int .i64 b] = chkA { c with z := z, p := p, b := b } da dc := rfl
theorem set_num (c : Chk) (da : Option Addr) (dc : Nat) (n : Int) : (chkA c da dc).setIfInBounds (0 + 0) (.int .u32 n) = chkA { c with num := n } da dc := rfl
abbrev LT := Chk × Option Addr × Nat
theorem read_fuse (D : Dev) (n y : Int) : readS (D.setFuse n) y = readS D y := read_same rfl rfl rfl rfl
theorem Tn.fuse {D : Dev} {z p : Int} (t : Tn D z p) {n : Int} (hn : n ≤ 9223372036854775807) : Tn (D.setFuse n) z p := ⟨t.ok.setFuse hn, t.down, t.zs, t.P, t.sure⟩
theorem Holds.fuse {D : Dev} {z : Int} {c : Chk} (h : Holds D z c) (n : Int) : Holds (D.setFuse n) z c := by
  unfold Holds at h ⊢
  rw [read_fuse, read_fuse]; exact h
/-- On the way: what was written last. -/
def TS (z number : Int) (h : Heap) (D : Dev) (i : Nat) : Option LT → Prop
  | none => i = 0 ∧ D.fuse = -1 ∧ ∀ k : Int, 0 ≤ k ∧ k < 2 → readS D (z - 2 + k) = (ck0, 10)
  | some b => 1 ≤ i ∧ U32 b.1.num ∧ Holds D z b.1 ∧ b.1.num = (number + (i : Int) - 1) % 4294967296 ∧ Ar .u32 h b.2.1 b.1.dir ∧ b.1.dir.length ≤ 100
def heldL : Option LT → LT
  | none => (ck0, none, 0)
  | some b => b
theorem Bz.ins {h0 h : Heap} {t : Tags} (b : Bz h0 t h) {ka ta : Option Addr} {keep : List Int} {tear : List Bool} (hk : Ar .i64 h0 ka keep) (ht : Bo h0 ta tear) : Ins t h ka keep ta tear := by
  refine ⟨hk.new b.new, fun j y hy => ?_, (b.im hk).im, fun hx g hg => ?_⟩
  · obtain ⟨g, o, e, hl, hc⟩ := ht j y hy
    exact ⟨g, o, e, Nat.lt_of_lt_of_le hl b.new.size, by rw [cellH_same (b.new.same g hl)]; exact hc⟩
  · cases tear with
    | nil => exact (hx rfl).elim
    | cons y ys =>
      obtain ⟨g', o, e, hl, _⟩ := ht 0 y rfl
      subst e; injection hg with hg; change g' = g at hg; subst hg
      exact b.tag _ hl
theorem bools_in {h : Heap} {v : Value} {l : List Bool} (r : ReadsV h (.slice .bool) v l) : ∃ a c, v = .slice a l.length c ∧ Bo h a l := by
  obtain ⟨cs, hcs, a, c, e, _, _, _, hr⟩ := r
  simp only at hcs
  subst hcs
  injection e with e
  refine ⟨a, c, e, fun i x hi => ?_⟩
  obtain ⟨b, o, es, e1, hb, hl, hc, e2⟩ := hr i x hi
  have := hc 0 Nat.one_pos
  rw [e2] at this
  exact ⟨b, o, e1, hb, by simpa [Sh.n] using this⟩
theorem turns_law (h : Heap) (v0 v1 v2 v3 v4 v5 : Value) (g : Int × Int × Int) (number : Int) (l : List CkSh.T) (fuse : Int) (keep : List Int) (tear : List Bool) (r0 : ReadsV h (.pair (.int .i64) (.pair (.int .i64) (.int .i64))) v0 g) (r1 : ReadsV h (.int .u32) v1 number) (r2 : ReadsV h (.slice CkSh) v2 l) (r3 : ReadsV h (.int .i64) v3 fuse) (r4 : ReadsV h (.slice (.int .i64)) v4 keep) (r5 : ReadsV h (.slice .bool) v5 tear) (hg : Laid h) :
    CallsH Tryz.prog 4 [v0, v1, v2, v3, v4, v5] h fun v h' => v = .bool true ∧ New h h' := by
  obtain ⟨cs, rfl, x1, y1, rfl, ⟨rfl, _⟩, x2, y2, rfl, ⟨rfl, _⟩, ⟨rfl, _⟩⟩ := r0
  obtain ⟨cs1, e1, rfl, w1⟩ := r1
  obtain rfl := (List.cons.inj e1).1
  obtain ⟨cs3, e3, rfl, w3⟩ := r3
  obtain rfl := (List.cons.inj e3).1
  obtain ⟨la, lc, rfl, _, _, _, sl⟩ := SlAt.reads r2
  obtain ⟨ka, kc, rfl, _, _, _, ark, wk⟩ := Ar.reads r4
  obtain ⟨ta, tc, rfl, bot⟩ := bools_in r5
  obtain ⟨z, p, gb⟩ := g
  have hnum : U32 number := u32_wf w1
  have hfz := i64_wf w3
  have hkw : ∀ x ∈ keep, -9223372036854775808 ≤ x ∧ x ≤ 9223372036854775807 := fun x hx => i64_wf (wk x hx)
  refine fun_ok Geo.hm' Tryz.func4 (by kernel_rfl) (F4_eq z p gb number la l.length lc fuse ka keep.length kc ta tear.length tc _ h) ?_
  unfold F4
  refine new_of fun h1 b1 n1 s1 => call_of (awake_ok h1 (hg.new n1)) ?_
  have b1 : Blk h1 h.size #[.int .i64 z, .int .i64 p, .int .i64 gb] 37 := b1
  rintro v h2 ⟨rfl, n2⟩
  have n02 := n1.trans n2
  have b2 := b1.new n2
  refine ⟨true, rfl, br_f rfl (cut_q (ts := []) (fun _ h' => New h2 h' ∧ rightB z p gb = true ∧ largeC l = false ∧ 0 ≤ fuse) ?_ ?_)⟩
  rotate_left
  · intro K hK
    refine ldAgg_blk (z, p, gb) b2 ⟨rfl, rfl, rfl, trivial⟩ (call_of (R2.rright_ok z p gb h2) ?_)
    rintro v h3 ⟨rfl, n3⟩
    refine ⟨_, rfl, br_of (fun hr => ⟨rfl, n02.trans n3⟩) fun hr => call_of (slarge_ok la lc l h3 (sl.new (n02.trans n3))) ?_⟩
    rintro v h4 ⟨rfl, n4⟩
    have n04 := (n02.trans n3).trans n4
    refine ⟨_, rfl, br_of (fun hl => ⟨rfl, n04⟩) fun hl => br_of (fun _ => ⟨rfl, n04⟩) fun hf => br_of (fun _ => ⟨rfl, n04⟩) fun _ => br_of (fun _ => ⟨rfl, n04⟩) fun _ => hK _ _ ⟨n3.trans n4, not_f hr, hl, ?_⟩⟩
    have := of_decide_eq_false hf
    omega
  rintro _ h3 ⟨n3, hr, hl, hf0⟩ _
  have n03 := n02.trans n3
  have b3 := b2.new n3
  obtain ⟨hl30, hl100⟩ := largeC_no hl
  obtain ⟨hz, hp, hb1, hb2⟩ := right_facts hr
  obtain ⟨zn, rfl⟩ := Int.eq_ofNat_of_zero_le (show 0 ≤ z by omega)
  obtain ⟨pn, rfl⟩ := Int.eq_ofNat_of_zero_le (show 0 ≤ p by omega)
  have ark3 := ark.new n03
  have bot3 : Bo h3 ta tear := fun j y hy => by
    obtain ⟨g, o, e, hl, hc⟩ := bot j y hy
    exact ⟨g, o, e, Nat.lt_of_lt_of_le hl n03.size, by rw [cellH_same (n03.same g hl)]; exact hc⟩
  refine ld_of (c := .int .i64) (zn : Int) (by rw [add_mk, cellH_blk b3]; rfl) (ld_of (c := .int .i64) (pn : Int) (by rw [add_mk, cellH_blk b3]; rfl) (call_of (ZnsP.new_ok 1 (by decide) (fun _ => (0, 0)) zn pn h3 (by omega) (by omega)) ?_))
  rintro v h4 ⟨b, rfl, n4, _, t4, ht4, r4⟩
  have r4 : PRep 1 t4 h4 b (Dev.empty zn pn) := r4
  have z4 : Bz h3 t4 h4 := ⟨n4, fun g hg => by rw [ht4 g hg]⟩
  refine ⟨(some ⟨b, 0, none⟩, errV 0), rfl, br_f rfl (new_of fun h5 b5 n5 s5 => ?_)⟩
  rw [zeroK] at b5
  have rn0 := empty_runs (n := zn) (p := pn) (by omega) (by omega)
  have hzl : ((Dev.empty zn pn).zs.length : Int) = (zn : Int) := by simp [Dev.empty]
  have s0 : TS (zn : Int) number h (Dev.empty zn pn) 0 none := ⟨rfl, rfl, fun k hk => read_none rn0.down (empty_pages _ _ _) (by rw [hzl]; omega)⟩
  have tn0 : Tn (Dev.empty zn pn) (zn : Int) (pn : Int) := ⟨rn0.ok, rfl, hzl, rfl, fun Z hZ => by rw [List.eq_of_mem_replicate hZ]; rfl⟩
  have r5 : PRep 1 (lay t4 h4.size (3, 0)) h5 b (Dev.empty zn pn) := r4.fr (S := fun _ => True) (Fr.lay n5 _) (fun _ _ => trivial) fun _ => trivial
  have z5 := z4.lay n5 (3, 0)
  have t18 : lay t4 h4.size (3, 0) h4.size = (3, 0) := lay_ge (Nat.le_refl _)
  generalize lay t4 h4.size (3, 0) = T5 at *
  have hS1 : ∀ p : Nat × Nat, p.1 = 0 → p.1 ≠ 1 := fun p hp => by rw [hp]; decide
  have hS3 : ∀ p : Nat × Nat, p.1 = 0 → p.1 ≠ 3 := fun p hp => by rw [hp]; decide
  refine ⟨fun (s : Bool × Int) h' => ∃ (i : Nat) (t : Tags) (D : Dev) (L : Option LT), s = (L.isSome, (i : Int)) ∧ i ≤ l.length ∧ Tn D (zn : Int) (pn : Int) ∧ TS (zn : Int) number h D i L ∧ PRep 1 t h' b D ∧ Bz h3 t h' ∧ t h4.size = (3, 0) ∧ Blk h' h4.size (chkA (heldL L).1 (heldL L).2.1 (heldL L).2.2) 40, fun (s : Bool × Int) _ => ((l.length : Int) - s.2).toNat, ⟨0, T5, _, none, rfl, Nat.zero_le _, tn0, s0, r5, z5, t18, b5⟩, ?_⟩
  rintro s j h7 ⟨i, T7, D, L, rfl, hi, tD, hTS, r7, z7, t18, b18⟩
  have n37 := z7.new
  have n07 := n03.trans n37
  have b17 := b3.new n37
  have h11 : (11 : Int) ≤ (zn : Int) := hz.1
  refine br_of (fun hlt => ?_) (fun hlt => ?_)
  rotate_left
  · -- all were written
    refine call_of (crash_ok tD.ok ka kc keep ta tc tear h7 r7 (z7.ins ark3 bot3) hkw) ?_
    rintro v h8 ⟨rfl, t8, r8, f8⟩
    have z8 := z7.fr f8 hS1
    have b188 := f8.blk b18 (by rw [t18]; decide)
    refine ⟨(), rfl, call_of (newest_ok (tD.ok.crash keep tear) h8 r8) ?_⟩
    rintro v h9 ⟨d9, c9, e9, l9, rfl, er9, o9, n9⟩
    have hzl' : ((D.crash keep tear).zs.length : Int) = (zn : Int) := by have := tD.zs; simpa [Dev.crash] using this
    have hn : newestS (D.crash keep tear) = match L with | none => (ck0, 10) | some b => (b.1, 0) := by
      cases L with
      | none =>
        obtain ⟨_, _, hk⟩ := hTS
        exact newest_none hzl' (by omega) fun k hk' => by rw [crash_holds tD keep tear _ (by omega)]; exact hk k hk'
      | some b =>
        obtain ⟨_, hu, ⟨h1, h2⟩, _⟩ := hTS
        have hm : 0 ≤ b.1.num % 2 ∧ b.1.num % 2 < 2 := by omega
        refine newest_holds hzl' (by omega) ⟨?_, ?_⟩
        · rw [crash_holds tD keep tear _ (by omega)]; exact h1
        · rw [crash_holds tD keep tear _ (by omega)]; exact h2
    rw [hn] at er9 o9 ⊢
    refine ⟨(chkC _ d9 c9, e9), rfl, new_stL (by rw [zeroK]; rfl) fun h10 b10 n10 s10 => ?_⟩
    have n810 := n9.trans n10
    have n010 := (n03.trans z8.new).trans n810
    cases L with
    | none =>
      refine br_t rfl (call_of (Err.code_ok e9 l9 10 h10 (hg.new n010) (er9.new n10).c) ?_)
      rintro v h11 ⟨rfl, n11⟩
      exact ⟨(10 : Int), rfl, br_t rfl ⟨rfl, n010.trans n11⟩⟩
    | some b =>
      obtain rfl := errB_nil er9
      obtain ⟨_, _, _, _, arb, hdb⟩ := hTS
      have b10 : Blk h10 h9.size (chkA b.1 d9 c9) 40 := b10
      have b1810 : Blk h10 h4.size (chkA b.1 b.2.1 b.2.2) 40 := b188.new n810
      refine br_f rfl (br_t rfl ⟨.inl rfl, br_t rfl (ldChk b10 (ldChk b1810 (call_of (csame_ok b.1 b.1 d9 b.2.1 c9 b.2.2 h10 (Ar.own (o9.grow n10)) (arb.new n010) (by omega)) ?_)))⟩)
      rintro v h11 ⟨rfl, n11⟩
      exact ⟨sameC b.1 b.1, rfl, by rw [(sameC_iff _ _).2 rfl], n010.trans n11⟩
  have hlt : (i : Int) < (l.length : Int) := of_decide_eq_true hlt
  have hiL : i < l.length := by omega
  obtain ⟨da, dc, arc, ock, ld⟩ := ck_at sl n07 hiL
  have hdl := hl100 _ (List.getElem_mem hiL)
  refine ld hiL (new_stL (by rw [zeroK]; rfl) fun h8 b8 n8 s8 => ?_)
  have b8 : Blk h8 h7.size (chkA (ckX l[i]) da dc) 40 := b8
  generalize ckX l[i] = c at arc ock hdl b8 ⊢
  refine ldAgg_blk ((zn : Int), (pn : Int), gb) (b17.new n8) ⟨rfl, rfl, rfl, trivial⟩ ?_
  rw [add_mk]
  refine stL_blk b8 (show 0 + 3 + 3 ≤ 7 by omega) fun h9 b9 o9 => ?_
  rw [set_geo] at b9
  have ew : IntKind.wrap .u32 (number + IntKind.wrap .u32 ((L.isSome, (i : Int)).2)) = (number + (i : Int)) % 4294967296 := by rw [wru32, wru32]; simp only []; omega
  rw [ew, add_mk]
  refine st_blk b9 (show 0 + 0 < 7 by omega) fun h9' b9' o9' => ?_
  rw [set_num] at b9'
  have n79 : New h7 h9' := o9'.upd.new (o9.upd.new n8 (Nat.le_refl _)) (Nat.le_refl _)
  have hc' : ∀ c' : Chk, c' = { c with num := (number + (i : Int)) % 4294967296, z := (zn : Int), p := (pn : Int), b := gb } → c'.num = (number + (i : Int)) % 4294967296 ∧ c'.dir = c.dir ∧ c'.z = (zn : Int) ∧ c'.p = (pn : Int) ∧ c'.b = gb ∧ ChkOk c' := fun c' e => by
    subst e
    exact ⟨rfl, rfl, rfl, rfl, rfl, ⟨(by first | omega | (dsimp only; omega) | (simp only []; omega)), (by first | omega | (dsimp only; omega) | (simp only []; omega))⟩, ock.ses, ock.seq, ock.dir⟩
  obtain ⟨e1, e2, e3, e4, e5, ock'⟩ := hc' _ rfl
  have b9' : Blk h9' h7.size (chkA { c with num := (number + (i : Int)) % 4294967296, z := (zn : Int), p := (pn : Int), b := gb } da dc) 40 := b9'
  generalize { c with num := (number + (i : Int)) % 4294967296, z := (zn : Int), p := (pn : Int), b := gb } = C at e1 e2 e3 e4 e5 ock' b9'
  have arC : Ar .u32 h da C.dir := by rw [e2]; exact arc
  have hdC : C.dir.length ≤ 100 := by rw [e2]; exact hdl
  have b19 := b17.new n79
  refine ld_of (c := .slice) (da, C.dir.length, dc) (by rw [add_mk, cellH_blk b9']; rfl) (ld_of (c := .int .i64) gb (by rw [add_mk, cellH_blk b19]; rfl) (tables_q gb h9' (by omega) (by omega) (br_of (fun hne => ⟨rfl, n07.trans n79⟩) fun heq => ?_)))
  have heq : (C.dir.length : Int) = (gb + 3) / 4 := by simpa using heq
  have hrC : rightC C = true := by unfold rightC; rw [e3, e4, e5, hr, decide_eq_true heq]; rfl
  have r9 := PRep.lay r7 n79
  have z9 := z7.lay n79 (0, 0)
  have q18 : lay T7 h7.size (0, 0) h4.size = (3, 0) := by rw [lay_lt b18.lt]; exact t18
  have q27 : lay T7 h7.size (0, 0) h7.size = (0, 0) := lay_ge (Nat.le_refl _)
  have b18' := b18.new n79
  generalize lay T7 h7.size (0, 0) = T9 at *
  refine cut_q (ts := []) (fun _ h' => ∃ t D2, PRep 1 t h' b D2 ∧ Tn D2 (zn : Int) (pn : Int) ∧ TS (zn : Int) number h D2 i L ∧ Fr (fun p => p.1 ≠ 1) T9 h9' t h') ?_ ?_
  rotate_left
  · intro K hK
    refine br_of (fun h1 => ?_) fun _ => hK () _ ⟨T9, D, r9, tD, hTS, Fr.refl _ _ _⟩
    have h1 : (i : Int) = 1 := by simpa using h1
    refine call_of (fuse_ok fuse h9' r9) ?_
    rintro v h10 ⟨rfl, r10, u10⟩
    obtain ⟨t', r', f'⟩ := Acted.of_upd r9 r10 u10
    refine ⟨(), rfl, hK () _ ⟨t', D.setFuse fuse, r', tD.fuse hfz.2, ?_, f'⟩⟩
    cases L with
    | none => obtain ⟨h0, _⟩ := hTS; omega
    | some b =>
      obtain ⟨q1, q2, q3, q4⟩ := hTS
      exact ⟨q1, q2, q3.fuse fuse, q4⟩
  rintro _ h10 ⟨T10, D2, r10, tD2, hTS2, f10⟩ _
  clear hTS tD
  have z10 := z9.fr f10 hS1
  have b1810 := f10.blk b18' (by rw [q18]; decide)
  have b2710 := f10.blk b9' (by rw [q27]; decide)
  have u18 : T10 h4.size = (3, 0) := by rw [f10.tags _ b18'.lt]; exact q18
  have u27 : T10 h7.size = (0, 0) := by rw [f10.tags _ b9'.lt]; exact q27
  refine ldChk b2710 (call_of (write_ok (k := 1) (by decide) tD2.ok C ock' da dc h10 r10 (arC.new (n03.trans z10.new))) ?_)
  rintro v h11' ⟨l11, t11, er11, r11, f11⟩
  have z11 := z10.fr f11 hS1
  have b1811 := f11.blk b1810 (by rw [u18]; decide)
  have b2711 := f11.blk b2710 (by rw [u27]; decide)
  have x18 : t11 h4.size = (3, 0) := by rw [f11.tags _ b1810.lt]; exact u18
  have x27 : t11 h7.size = (0, 0) := by rw [f11.tags _ b2710.lt]; exact u27
  have hl47 : h4.size < h7.size := b18.lt
  have hah : Ahead D2 (zn : Int) (L.map (·.1)) C := by
    cases L with
    | none => exact hTS2.2.2
    | some b =>
      obtain ⟨q1, q2, q3, q4, _⟩ := hTS2
      refine ⟨q2, q3, ?_⟩
      rw [e1, q4]; omega
  have hcode : (writeS D2 C).2 = 0 ∨ ((writeS D2 C).2 = 7 ∧ L.isSome = true) := by
    cases L with
    | none =>
      obtain ⟨_, hf, _⟩ := hTS2
      obtain ⟨E, he, _⟩ := write_all ⟨tD2.ok, tD2.down, hf⟩ ock' hrC (e3.trans tD2.zs.symm) (e4.trans tD2.P.symm)
      rw [he]; exact .inl rfl
    | some b =>
      obtain ⟨w, hww, hwl, _⟩ := where_slot tD2.zs h11 C.num
      rcases write_turn tD2.ok tD2.down hrC (e3.trans tD2.zs.symm) (e4.trans tD2.P.symm) hww hwl with ⟨E, he, _⟩ | ⟨E, he, _⟩
      · rw [he]; exact .inl rfl
      · rw [he]; exact .inr ⟨rfl, rfl⟩
  have hdv := DevOk.write tD2.ok ock'
  rcases hW : writeS D2 C with ⟨D', e⟩
  rw [hW] at er11 r11 hcode hdv
  refine ⟨v, rfl, er11.c.ok.1, ?_⟩
  rw [er11.c.ok.2]
  rcases hcode with he | ⟨he, hsome⟩
  · have he : e = 0 := he
    subst he
    obtain rfl := errT_nil er11
    refine br_t rfl (ldChk b2711 (stL_blk b1811 (show 0 + 7 ≤ 7 by omega) fun h12 b12 o12 => ?_))
    rw [setsA_all (by rfl)] at b12
    have b12 : Blk h12 h4.size (chkA C da dc) 40 := b12
    obtain ⟨tD', hh⟩ := step_ok tD2 h11 ock' hrC e3 e4 hah hW
    have fo : Fr (fun p => p.1 ≠ 3) t11 h11' t11 h12 := Fr.upd o12.upd fun hn => hn (by rw [x18])
    have ezi : IntKind.wrap .i64 ((i : Int) + 1) = ((i + 1 : Nat) : Int) := (by first | (rw [wr64 (by omega) (by omega)]; omega) | (simp only [IntKind.wrap_i64]; omega))
    simp only [ezi]
    refine ⟨⟨i + 1, t11, D', some (C, da, dc), rfl, hiL, tD', ⟨by omega, ock'.num, hh, ?_, arC, hdC⟩, r11.fr fo hS3 fun j => (by decide : (1 : Nat) ≠ 3), z11.fr fo hS3, x18, b12⟩, (by first | omega | (dsimp only; omega) | (simp only []; omega))⟩
    show C.num = _
    rw [e1]; omega
  · have he : e = 7 := he
    subst he
    refine br_f (show decide ((7 : Int) = 0) = false by decide) (call_of (crash_ok hdv ka kc keep ta tc tear h11' r11 (z11.ins ark3 bot3) hkw) ?_)
    rintro v' h12 ⟨rfl, t12, r12, f12⟩
    have z12 := z11.fr f12 hS1
    have er12 := er11.fr f12 hS1
    have b1812 := f12.blk b1811 (by rw [x18]; decide)
    have b2712 := f12.blk b2711 (by rw [x27]; decide)
    refine ⟨(), rfl, call_of (newest_ok (hdv.crash keep tear) h12 r12) ?_⟩
    rintro v' h13 ⟨d13, c13, e13, l13, rfl, er13, o13, n13⟩
    refine ⟨(chkC _ d13 c13, e13), rfl, new_stL (by rw [zeroK]; rfl) fun h14 b14 n14 s14 => ?_⟩
    have n1214 := n13.trans n14
    have n014 := (n03.trans z12.new).trans n1214
    refine call_of (Err.code_ok v l11 7 h14 (hg.new n014) (er12.new n1214).c) ?_
    rintro v' h15 ⟨rfl, n15⟩
    have n1215 := n1214.trans n15
    have n015 := n014.trans n15
    cases L with
    | none => cases hsome
    | some bb =>
      obtain ⟨_, _, _, _, arb, hdb⟩ := hTS2
      have hnw := step_fail tD2 h11 ock' hrC e3 e4 hah hW keep tear
      have b1815 : Blk h15 h4.size (chkA bb.1 bb.2.1 bb.2.2) 40 := b1812.new n1215
      obtain ⟨X, hX, hor, hdX⟩ : ∃ X : Chk, newestS (D'.crash keep tear) = (X, 0) ∧ (X = bb.1 ∨ X = C) ∧ X.dir.length ≤ 100 := by
        rcases hnw with hx | hx
        · exact ⟨_, hx, .inl rfl, hdb⟩
        · exact ⟨_, hx, .inr rfl, hdC⟩
      rw [hX] at b14 er13 o13
      obtain rfl := errB_nil er13
      have b14 : Blk h14 h13.size (chkA X d13 c13) 40 := b14
      have arX := Ar.own ((o13.grow n14).grow n15)
      refine ⟨(7 : Int), rfl, br_t rfl (br_t rfl ⟨.inl rfl, br_t rfl (ldChk (b14.new n15) (ldChk b1815 (call_of (csame_ok X bb.1 d13 bb.2.1 c13 bb.2.2 h15 arX (arb.new n015) (by omega)) ?_)))⟩)⟩
      rintro v' h16 ⟨rfl, n16⟩
      refine ⟨sameC X bb.1, rfl, br_of (fun _ => ⟨rfl, n015.trans n16⟩) fun hne => ?_⟩
      rcases hor with rfl | rfl
      · rw [(sameC_iff _ _).2 rfl] at hne; cases hne
      · refine ldChk ((b14.new n15).new n16) (ldChk ((b2712.new n1215).new n16) (call_of (csame_ok X X d13 da c13 dc h16 (arX.new n16) (arC.new (n015.trans n16)) (by omega)) ?_))
        rintro v' h17 ⟨rfl, n17⟩
        exact ⟨sameC X X, rfl, by rw [(sameC_iff _ _).2 rfl], (n015.trans n16).trans n17⟩
end Go.Proofs.YthimfpkkdhpceaaGreatDoor.Slt
