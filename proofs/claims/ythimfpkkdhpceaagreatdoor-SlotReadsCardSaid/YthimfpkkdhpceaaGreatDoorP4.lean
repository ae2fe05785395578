/-
  Texts of this claim, one behind the other: SltW, SltR, SltS, SltL, WL15C, L15A, WR2, R2, WR6, R6A, WR3O, R6, R6B, WR4, R4B, WR7.
-/
import Derived.Test.YthimfpkkdhpceaaGreatDoorP3
import Derived.Test.YthimfpkkdhpceaaGreatDoorProg
/-
  The contracts of package slot: Where, behind, Write.
-/
namespace Go.Proofs.YthimfpkkdhpceaaGreatDoor.Slt
open Go.Pl Go.Proofs.YthimfpkkdhpceaaGreatDoor.W Go.Proofs.YthimfpkkdhpceaaGreatDoor.Byts Go.Proofs.YthimfpkkdhpceaaGreatDoor.Four Go.Proofs.YthimfpkkdhpceaaGreatDoor.Adl Go.Proofs.YthimfpkkdhpceaaGreatDoor.As Go.Proofs.YthimfpkkdhpceaaGreatDoor.Err Go.Proofs.YthimfpkkdhpceaaGreatDoor.Head Go.Proofs.YthimfpkkdhpceaaGreatDoor.HdP Go.Proofs.YthimfpkkdhpceaaGreatDoor.Geo Go.Proofs.YthimfpkkdhpceaaGreatDoor.Zns Go.Proofs.YthimfpkkdhpceaaGreatDoor.ZnsP Go.Proofs.YthimfpkkdhpceaaGreatDoor.Ck Go.Proofs.YthimfpkkdhpceaaGreatDoor.Rng
theorem since {k b : Nat} {t : Tags} {h0 h h' : Heap} {D' : Dev} (n : New h0 h) (a : Acted k t h b D' h') : Acted k t h0 b D' h' := by
  obtain ⟨t', r, f⟩ := a
  exact ⟨t', r, (Fr.new0 n).trans f⟩
theorem till {k b : Nat} {t : Tags} {h h1 h2 : Heap} {D' : Dev} (a : Acted k t h b D' h1) (n : New h1 h2) : Acted k t h b D' h2 := by
  obtain ⟨t', r, f⟩ := a
  exact ⟨t', r.new n, f.trans (Fr.new0 n)⟩
theorem after {k b : Nat} {t t1 : Tags} {h h1 h2 : Heap} {D' : Dev} (f : Fr (fun p => p.1 ≠ k) t h t1 h1) (a : Acted k t1 h1 b D' h2) : Acted k t h b D' h2 := by
  obtain ⟨t', r, f'⟩ := a
  exact ⟨t', r, f.trans f'⟩
theorem stays {k b : Nat} {t : Tags} {h : Heap} {D : Dev} (r : PRep k t h b D) : Acted k t h b D h := ⟨t, r, Fr.refl _ _ _⟩
theorem where_ok {k b : Nat} {t : Tags} {D : Dev} (o : DevOk D) (n : Int) (hn : U32 n) (h : Heap) (r : PRep k t h b D) : CallsH Tryz.prog 22 [ptr b, .int .u32 n] h fun v h' => v = .int .i64 (whereS D n) ∧ h' = h := by
  obtain ⟨hn0, hn1⟩ := hn
  refine fun_ok Geo.hm' Tryz.func22 (by kernel_rfl) (F22_eq _ _ _ h) ?_
  unfold F22
  refine call_of (zones_ok h r) ?_
  rintro v h' ⟨rfl, hh⟩; subst h'
  have hz := o.zones
  refine ⟨(D.zs.length : Int), rfl, ?_, rfl⟩
  rw [Int.tmod_eq_emod_of_nonneg hn0, wr64 (n := n % 2) (by omega) (by omega), wr64 (n := (D.zs.length : Int) - 2) (by omega) (by omega), wr64 (by omega) (by omega)]
  rfl
theorem behind_ok (n m : Int) (h : Heap) : CallsH Tryz.prog 59 [.int .u32 n, .int .u32 m] h fun v h' => v = .bool (behindB n m) ∧ h' = h := by
  refine fun_ok Geo.hm' Tryz.func59 (by kernel_rfl) (F59_eq _ _ _ h) ?_
  unfold F59
  unfold behindB
  rw [wru32, wru32]
  refine br_of (fun h1 => ?_) fun h1 => br_of (fun h2 => ?_) fun h2 => ?_
  · rw [if_pos (by simpa using h1)]; exact ⟨rfl, rfl⟩
  · rw [if_neg (by simpa using h1), if_pos (by simpa using h2)]; exact ⟨rfl, rfl⟩
  · rw [if_neg (by simpa using h1), if_neg (by simpa using h2)]; exact ⟨rfl, rfl⟩
theorem Lies.fr {S : Nat × Nat → Prop} {t t' : Tags} {h0 h h' : Heap} {la : Option Addr} {m lc : Nat} {B : List Int} (l : Lies h0 h la m lc B) (s : Fr S t h t' h') (hS : ∀ b, h0.size ≤ b → b < h.size → S (t b)) : Lies h0 h' la m lc B := by
  obtain ⟨ba, bc, o1, o2, r⟩ := l
  exact ⟨ba, bc, o1.keep fun g _ hg hb _ => s.same g hb.lt (hS g hg hb.lt), o2.keep fun g _ hg hb _ => s.same g hb.lt (hS g hg hb.lt), r⟩
theorem pg_bytes (ses num : Int) (i : Nat) {b : List Int} (h : b.length = 16) : bytesF (5, ses, (i : Int), num) b = (pg ses num i b, 0) := by
  unfold bytesF
  rw [if_neg (by simp [isR]), if_neg (by omega)]; rfl
/-- What a call that turns the device leaves, with an error that is nobody's. -/
def ActE (k : Nat) (t : Tags) (h : Heap) (b : Nat) (D' : Dev) (c : Int) (v : Value) (h' : Heap) : Prop := ∃ l t', ErrT t' h' v l c ∧ PRep k t' h' b D' ∧ Fr (fun p => p.1 ≠ k) t h t' h'
theorem actE {k b : Nat} {t : Tags} {h h5 h6 : Heap} {D' : Dev} {c : Int} {v : Value} {l : List (ByteArray × Int)} (a : Acted k t h b D' h5) (e : ErrB h5.size h6 v l c) (n : New h5 h6) : ActE k t h b D' c v h6 := by
  obtain ⟨t', r, f⟩ := a
  exact ⟨l, lay t' h5.size (0, 0), e.tag rfl, PRep.lay r n, f.trans (Fr.lay n (0, 0))⟩
def WriteP (k b : Nat) (t : Tags) (D : Dev) (c : Chk) (h : Heap) (v : Value) (h' : Heap) : Prop := ActE k t h b (writeS D c).1 (writeS D c).2 v h'
theorem write_ok {k b : Nat} {t : Tags} {D : Dev} (hk : k ≠ 0) (o : DevOk D) (c : Chk) (oc : ChkOk c) (da : Option Addr) (dc : Nat) (h : Heap) (r : PRep k t h b D) (hd : Ar .u32 h da c.dir) :
    CallsH Tryz.prog 13 [ptr b, chkV c da dc] h (WriteP k b t D c h) := by
  refine fun_ok Geo.hm' Tryz.func13 (by kernel_rfl) (F13_eq _ _ _ _ _ _ _ _ _ _ _ h) ?_
  unfold F13
  have hzs := o.zones
  refine new_of fun h1 b1 n1 s1 => ldChk b1 ?_
  have b1 : Blk h1 h.size (chkA c da dc) 40 := b1
  have wr : IntKind.wrap .i64 c.num = c.num := by have := oc.num; unfold U32 at this; exact wr64 (by omega) (by omega)
  -- what is refused
  have no : ∀ hx, New h hx → Blk hx h.size (chkA c da dc) 40 → ((blocksC c).2 ≠ 0 ∨ c.z ≠ (D.zs.length : Int) ∨ c.p ≠ (D.P : Int)) →
      callT Tryz.prog 35 [.string ((⟨#[99, 104, 101, 99, 107, 112, 111, 105, 110, 116]⟩ : ByteArray)), .int .i64 c.num, .iface 31 (.int .i64 1)] [.sc .any] (fun (r18 : Value) h19 => WriteP k b t D c h r18 h19) hx := by
    intro hx nx bx hn
    refine call_of (wrap_b _ c.num 1 hx) ?_
    rintro v h2 ⟨l, he, n2⟩
    have e : writeS D c = (D, 1) := by unfold writeS; rw [if_pos hn]
    refine ⟨v, rfl, ?_⟩
    unfold WriteP; rw [e]; exact actE (till (stays r) nx) he n2
  cases hr : rightC c with
  | false =>
    refine call_of (blocks_no c da dc h1 hr) ?_
    rintro v h2 ⟨rfl, n2⟩
    have hc : (blocksC c).2 ≠ 0 := by unfold blocksC; rw [if_pos hr]; decide
    refine ⟨((none, 0, 0), errV 1), rfl, cut_q (ts := []) (fun _ _ => False) (fun _ _ hf => hf.elim) ?_⟩
    intro K _
    refine cut_q (ts := [.sc .bool]) (fun s h' => s = true ∧ h' = h2) ?_ ?_
    rotate_left
    · intro K2 hK2
      exact ⟨errV_if 1, br_t rfl (hK2 _ _ ⟨rfl, rfl⟩)⟩
    rintro s h' ⟨rfl, hh⟩ _; subst h'
    refine br_t rfl (ld_of (c := .int .u32) c.num (by rw [add_mk, cellH_blk (b1.new n2)]; rfl) ?_)
    rw [wr]
    exact no h2 (n1.trans n2) (b1.new n2) (.inl hc)
  | true =>
  obtain ⟨_, _, _, hb, hdl⟩ := right_c hr
  have ht : tabN c.b ≤ 16 := by unfold tabN; omega
  have hm : manyN c.b ≤ 100 := by unfold manyN lenN; omega
  have eb : blocksC c = (chunks (manyN c.b) (bytesC c), 0) := by unfold blocksC; rw [if_neg (by rw [hr]; simp)]
  have hlen := bytes_len hr
  have h16 := chunks_each hlen
  refine call_of (blocks_yes c da dc h1 hr (hd.new n1)) ?_
  rintro v h2 ⟨la, lc, rfl, li, n2⟩
  have n02 := n1.trans n2
  have b2 := b1.new n2
  have r2 := r.new n02
  refine ⟨((la, manyN c.b, lc), .nilIface), rfl, cut_q (ts := []) (fun _ h' => h' = h2 ∧ c.z = (D.zs.length : Int) ∧ c.p = (D.P : Int)) ?_ ?_⟩
  rotate_left
  · intro K hK
    refine cut_q (ts := [.sc .bool]) (fun s h' => s = decide (c.z ≠ (D.zs.length : Int) ∨ c.p ≠ (D.P : Int)) ∧ h' = h2) ?_ ?_
    rotate_left
    · intro K2 hK2
      have c0 : cellH h2 (Addr.add (Addr.add ⟨h.size, 0, none⟩ 3) 0) = some (.int .i64 c.z) := by rw [add_mk, add_mk, cellH_blk b2]; rfl
      have c1 : cellH h2 (Addr.add (Addr.add ⟨h.size, 0, none⟩ 3) 1) = some (.int .i64 c.p) := by rw [add_mk, add_mk, cellH_blk b2]; rfl
      refine ⟨.inl rfl, br_f rfl (ld_of (c := .int .i64) c.z c0 (call_of (zones_ok h2 r2) ?_))⟩
      rintro v h' ⟨rfl, hh⟩; subst h'
      refine ⟨(D.zs.length : Int), rfl, c0, br_of (fun h1 => hK2 _ _ ⟨?_, rfl⟩) fun h1 => ld_of (c := .int .i64) c.p c1 (call_of (pages_ok h2 r2) ?_)⟩
      · have h1 : c.z ≠ (D.zs.length : Int) := by simpa using h1
        exact (decide_eq_true (Or.inl h1)).symm
      · have h1 : c.z = (D.zs.length : Int) := by simpa using h1
        rintro v h' ⟨rfl, hh⟩; subst h'
        refine ⟨(D.P : Int), rfl, c1, c0, hK2 _ _ ⟨?_, rfl⟩⟩
        by_cases e : c.p = (D.P : Int)
        · have e2 : (c.p != (D.P : Int)) = false := by simp [e]
          exact e2.trans (decide_eq_false (by rintro (h | h); exact h h1; exact h e)).symm
        · have e2 : (c.p != (D.P : Int)) = true := by simp [e]
          exact e2.trans (decide_eq_true (Or.inr e)).symm
    rintro s h' ⟨rfl, hh⟩ _; subst h'
    refine br_of (fun h1 => ld_of (c := .int .u32) c.num (by rw [add_mk, cellH_blk b2]; rfl) ?_) fun h1 => hK () _ ⟨rfl, ?_⟩
    · rw [wr]
      exact no h2 n02 b2 (.inr (of_decide_eq_true h1))
    · have h1 := of_decide_eq_false h1
      exact ⟨Classical.not_not.1 fun h => h1 (.inl h), Classical.not_not.1 fun h => h1 (.inr h)⟩
  rintro _ h' ⟨hh, ez, ep⟩ _; subst h'
  have hno : ¬ ((blocksC c).2 ≠ 0 ∨ c.z ≠ (D.zs.length : Int) ∨ c.p ≠ (D.P : Int)) := by rw [eb]; rintro (h | h | h); exact h rfl; exact h ez; exact h ep
  have cN : ∀ hx, Blk hx h.size (chkA c da dc) 40 → cellH hx (Addr.add ⟨h.size, 0, none⟩ 0) = some (.int .u32 c.num) := fun hx bx => by rw [add_mk, cellH_blk bx]; rfl
  refine ld_of (c := .int .u32) c.num (cN _ b2) (call_of (where_ok o c.num oc.num h2 r2) ?_)
  rintro v h' ⟨rfl, hh⟩; subst h'
  refine ⟨whereS D c.num, rfl, ?_⟩
  have r2t := PRep.lay r n02
  refine call_of (reset_ok o (whereS D c.num) h2 r2t) ?_
  rintro v h3 ⟨rfl, ac3⟩
  refine ⟨errV (D.reset (whereS D c.num)).2, rfl, errV_if _, ?_⟩
  obtain ⟨t3, r3, f3⟩ := ac3
  have hlow : ∀ q, h.size ≤ q → (lay t h.size (0, 0) q).1 ≠ k := fun q hq => by rw [lay_ge hq]; exact fun e => hk e.symm
  have b3 : Blk h3 h.size (chkA c da dc) 40 := f3.blk b2 (hlow _ (Nat.le_refl _))
  have A3 : Acted k t h b (D.reset (whereS D c.num)).1 h3 := Acted.before ⟨t3, r3, f3⟩ n02
  refine br_of (fun he => ld_of (c := .int .u32) c.num (cN _ b3) ?_) fun he => ?_
  · have he : (D.reset (whereS D c.num)).2 ≠ 0 := by simpa [errV_nil] using he
    have e : writeS D c = D.reset (whereS D c.num) := by unfold writeS; rw [if_neg hno, if_pos he]
    rw [wr]
    refine call_of (wrap_b _ c.num _ h3) ?_
    rintro v h4 ⟨l, hl, n4⟩
    refine ⟨v, rfl, ?_⟩
    unfold WriteP; rw [e]; exact actE A3 hl n4
  have he : (D.reset (whereS D c.num)).2 = 0 := by simpa [errV_nil] using he
  have e0 : writeS D c = if (appS (whereS D c.num) c.ses c.num (D.reset (whereS D c.num)).1 0 (chunks (manyN c.b) (bytesC c))).2 ≠ 0 then appS (whereS D c.num) c.ses c.num (D.reset (whereS D c.num)).1 0 (chunks (manyN c.b) (bytesC c)) else (appS (whereS D c.num) c.ses c.num (D.reset (whereS D c.num)).1 0 (chunks (manyN c.b) (bytesC c))).1.flush := by
    unfold writeS
    rw [if_neg hno, if_neg (fun h => h he), eb]
  have o3 := o.reset (whereS D c.num)
  have li3 : Lies h1 h3 la (manyN c.b) lc (bytesC c) := Lies.fr li f3 fun q hq _ => hlow q (by have := n1.size; omega)
  generalize (D.reset (whereS D c.num)).1 = D3 at *
  generalize hw : whereS D c.num = w at *
  have n03 : h.size ≤ h3.size := Nat.le_trans n02.size f3.size
  have t3h : ∀ q, h.size ≤ q → q < h2.size → (t3 q).1 ≠ k := fun q h1 h2' => by rw [f3.tags q h2']; exact hlow q h1
  have hcl := chunks_len (manyN c.b) (bytesC c)
  refine ⟨fun (s : Int) h' => ∃ i : Nat, s = i ∧ i ≤ manyN c.b ∧ ∃ D' t', PRep k t' h' b D' ∧ DevOk D' ∧ Fr (fun p => p.1 ≠ k) t3 h3 t' h' ∧ appS w c.ses c.num D3 0 (chunks (manyN c.b) (bytesC c)) = appS w c.ses c.num D' i ((chunks (manyN c.b) (bytesC c)).drop i), fun (s : Int) _ => ((manyN c.b : Int) - s).toNat, ⟨0, rfl, Nat.zero_le _, D3, t3, r3, o3, Fr.refl _ _ _, rfl⟩, ?_⟩
  rintro s j h4 ⟨i, rfl, hi, D4, t4, r4, o4, f4, e4⟩
  have t3h' : ∀ q, h.size ≤ q → q < h2.size → (t3 q).1 ≠ k := t3h
  have b4 : Blk h4 h.size (chkA c da dc) 40 := f4.blk b3 (t3h _ (Nat.le_refl _) b2.lt)
  have lb : ∀ q, h1.size ≤ q → q < h3.size → q < h2.size → (t3 q).1 ≠ k := fun q h1 _ h3 => t3h q (by have := n1.size; omega) h3
  have li4 : Lies h1 h4 la (manyN c.b) lc (bytesC c) := by
    obtain ⟨ba, bc, p1, p2, rest⟩ := li
    have q1 := p1.keep (h' := h3) fun g _ hg hb _ => f3.same g hb.lt (hlow g (by have := n1.size; omega))
    have q2 := p2.keep (h' := h3) fun g _ hg hb _ => f3.same g hb.lt (hlow g (by have := n1.size; omega))
    refine ⟨ba, bc, q1.keep fun g _ hg hb hgg => f4.same g hb.lt (t3h g (by have := n1.size; omega) (p1.blk_ge g hgg).2), q2.keep fun g _ hg hb hgg => f4.same g hb.lt (t3h g (by have := n1.size; omega) (p2.blk_ge g hgg).2), rest⟩
  have A4 : Acted k t h b D4 h4 := Acted.before (after f3 (after f4 (stays r4))) n02
  refine br_of (fun hlt => ?_) (fun hlt => ?_)
  · have hlt : (i : Int) < (manyN c.b : Int) := of_decide_eq_true hlt
    have hiL : i < manyN c.b := by omega
    have hiC : i < (chunks (manyN c.b) (bytesC c)).length := by omega
    have ez1 : IntKind.wrap .i64 ((i : Int) + 1) = ((i + 1 : Nat) : Int) := (by first | (rw [wr64 (by omega) (by omega)]; omega) | (simp only [IntKind.wrap_i64]; omega))
    have ei : IntKind.wrap .u32 (i : Int) = (i : Int) := by rw [wru32]; omega
    refine li4.rb.ld hiC hiL fun a' c' sb => ?_
    have hbl := h16 _ (List.getElem_mem hiC)
    refine ld_of (c := .int .u32) c.ses (by rw [add_mk, cellH_blk b4]; rfl) (ld_of (c := .int .u32) c.num (cN _ b4) ?_)
    rw [ei]
    have hho : HdOk (5, c.ses, (i : Int), c.num) := ⟨⟨(by first | omega | (dsimp only; omega) | (simp only []; omega)), (by first | omega | (dsimp only; omega) | (simp only []; omega))⟩, oc.ses, ⟨(by first | omega | (dsimp only; omega) | (simp only []; omega)), (by first | omega | (dsimp only; omega) | (simp only []; omega))⟩, oc.num⟩
    refine call_of (Head.bytes_ok (5, c.ses, (i : Int), c.num) hho a' c' (chunks (manyN c.b) (bytesC c))[i] h4 sb) ?_
    rintro v h5 ⟨a5, c5, rfl, g5, _⟩
    rw [pg_bytes c.ses c.num i hbl] at g5 ⊢
    refine ⟨((a5, (pg c.ses c.num i (chunks (manyN c.b) (bytesC c))[i]).length, c5), errV 0), rfl, ?_⟩
    have hpl : (pg c.ses c.num i (chunks (manyN c.b) (bytesC c))[i]).length = 33 := pageL_len _ hbl
    have n45 := g5.new
    have r5 := PRep.lay r4 n45
    have im5 : Im .u8 (lay t4 h4.size (0, 0)) h5 a5 (pg c.ses c.num i (chunks (manyN c.b) (bytesC c))[i]) := ⟨g5.ar, fun hx q hq => by have := g5.at_ hx q hq; rw [lay_ge (by omega)]⟩
    have edrop : (chunks (manyN c.b) (bytesC c)).drop i = (chunks (manyN c.b) (bytesC c))[i] :: (chunks (manyN c.b) (bytesC c)).drop (i + 1) := List.drop_eq_getElem_cons hiC
    rw [edrop] at e4
    generalize (chunks (manyN c.b) (bytesC c))[i] = bl at *
    refine cut_q (ts := [.sc .any]) (fun s h' => s = errV (D4.append w (pg c.ses c.num i bl)).2.2 ∧ ∃ t', PRep k t' h' b (D4.append w (pg c.ses c.num i bl)).1 ∧ Fr (fun p => p.1 ≠ k) t4 h4 t' h') ?_ ?_
    rotate_left
    · intro K hK
      refine ⟨errV_if 0, br_t rfl (call_of (append_ok o4 w a5 c5 (pg c.ses c.num i bl) h5 r5 (by omega) im5) ?_)⟩
      rintro v h6 ⟨rfl, t6, r6, f6⟩
      exact ⟨((D4.append w (pg c.ses c.num i bl)).2.1, errV (D4.append w (pg c.ses c.num i bl)).2.2), rfl, hK _ _ ⟨rfl, t6, r6, (Fr.lay n45 (0, 0)).trans f6⟩⟩
    rintro s h6 ⟨rfl, t6, r6, f6⟩ _
    have f36 := f4.trans f6
    have b6 : Blk h6 h.size (chkA c da dc) 40 := f36.blk b3 (t3h _ (Nat.le_refl _) b2.lt)
    refine ⟨errV_if _, br_of (fun he6 => ld_of (c := .int .u32) c.num (cN _ b6) ?_) fun he6 => ?_⟩
    · have he6 : (D4.append w (pg c.ses c.num i bl)).2.2 ≠ 0 := by simpa [errV_nil] using he6
      have e5 : appS w c.ses c.num D4 i (bl :: (chunks (manyN c.b) (bytesC c)).drop (i + 1)) = ((D4.append w (pg c.ses c.num i bl)).1, (D4.append w (pg c.ses c.num i bl)).2.2) := by
        rw [appS, if_pos he6]
      rw [e5] at e4
      rw [e4, if_pos he6] at e0
      rw [wr]
      refine call_of (wrap_b _ c.num _ h6) ?_
      rintro v h7 ⟨l, hl, n7⟩
      refine ⟨v, rfl, ?_⟩
      unfold WriteP
      rw [e0]
      exact actE (Acted.before (after f3 (after f36 (stays r6))) n02) hl n7
    · have he6 : (D4.append w (pg c.ses c.num i bl)).2.2 = 0 := by simpa [errV_nil] using he6
      have e5 : appS w c.ses c.num D4 i (bl :: (chunks (manyN c.b) (bytesC c)).drop (i + 1)) = appS w c.ses c.num (D4.append w (pg c.ses c.num i bl)).1 (i + 1) ((chunks (manyN c.b) (bytesC c)).drop (i + 1)) := by
        rw [appS, if_neg (fun h => h he6)]
      rw [ez1]
      refine ⟨⟨i + 1, rfl, hiL, (D4.append w (pg c.ses c.num i bl)).1, t6, r6, o4.append w (fun x hx => ?_), f36, by rw [e4, e5]⟩, (by first | omega | (dsimp only; omega) | (simp only []; omega))⟩
      exact pageL_byt hho sb.byt x hx
  · have hlt : ¬ (i : Int) < (manyN c.b : Int) := of_decide_eq_false hlt
    have : i = manyN c.b := by omega
    subst this
    rw [List.drop_of_length_le (by omega)] at e4
    have e5 : appS w c.ses c.num D4 (manyN c.b) [] = (D4, 0) := rfl
    rw [e5] at e4
    rw [e4, if_neg (fun h => h rfl)] at e0
    refine ld_of (c := .int .u32) c.num (cN _ b4) (call_of (flush_ok o4 h4 r4) ?_)
    rintro v h5 ⟨rfl, t5, r5, f5⟩
    have f35 := f4.trans f5
    have b5 : Blk h5 h.size (chkA c da dc) 40 := f35.blk b3 (t3h _ (Nat.le_refl _) b2.lt)
    refine ⟨errV D4.flush.2, rfl, cN _ b5, ?_⟩
    rw [wr]
    refine call_of (wrap_b _ c.num _ h5) ?_
    rintro v h6 ⟨l, hl, n6⟩
    refine ⟨v, rfl, cN _ (b5.new n6), ?_⟩
    unfold WriteP
    rw [e0]
    exact actE (Acted.before (after f3 (after f35 (stays r5))) n02) hl n6
end Go.Proofs.YthimfpkkdhpceaaGreatDoor.Slt
/-
  The contracts of package slot: pages, Read.
-/
namespace Go.Proofs.YthimfpkkdhpceaaGreatDoor.Slt
open Go.Pl Go.Proofs.YthimfpkkdhpceaaGreatDoor.W Go.Proofs.YthimfpkkdhpceaaGreatDoor.Byts Go.Proofs.YthimfpkkdhpceaaGreatDoor.Four Go.Proofs.YthimfpkkdhpceaaGreatDoor.Adl Go.Proofs.YthimfpkkdhpceaaGreatDoor.As Go.Proofs.YthimfpkkdhpceaaGreatDoor.Err Go.Proofs.YthimfpkkdhpceaaGreatDoor.Head Go.Proofs.YthimfpkkdhpceaaGreatDoor.HdP Go.Proofs.YthimfpkkdhpceaaGreatDoor.Geo Go.Proofs.YthimfpkkdhpceaaGreatDoor.Zns Go.Proofs.YthimfpkkdhpceaaGreatDoor.ZnsP Go.Proofs.YthimfpkkdhpceaaGreatDoor.Ck Go.Proofs.YthimfpkkdhpceaaGreatDoor.Rng
/- ERRORS THAT STAY. -/
theorem errs {h h' : Heap} {g n : Nat} {arr : Array Value} {T : TypeId} (hb : Blk h g arr T) (hT : T ≠ 147) (o : Only g h h') {l : List (ByteArray × Int)} {v : Value} {c : Int} (e : ErrB n h v l c) : ErrB n h' v l c := e.keep fun b arr' hb' => o.same b fun e => by
  subst e
  have h1 : h[b]? = _ := hb
  rw [show h[b]? = _ from hb'] at h1
  injection h1 with h1
  injection h1 with _ h1
  exact hT h1.symm
theorem errs_taken {n m : Nat} {h h' : Heap} (t : Taken n h h') {l : List (ByteArray × Int)} {v : Value} {c : Int} (e : ErrB m h v l c) : ErrB m h' v l c := e.keep fun _ _ hb => Tk_blk t hb
/- ROWS OF BYTES, IN AN OWN ROW. -/
/-- Rows of bytes in an own row, none of them in its block. -/
def RowsA (h : Heap) (base : Nat) (la : Option Addr) (lc : Nat) (l : List (List Int)) : Prop :=
  ∃ vs, OwnH h base 68 1 la l.length lc vs ∧ ∀ (j : Nat) (bs : List Int), l[j]? = some bs → ∃ a' c', vs[j]? = some (.slice a' bs.length c') ∧ Sl8 h a' c' bs ∧ (bs ≠ [] → ∀ g, blkOf a' = some g → base ≤ g ∧ blkOf la ≠ some g)
theorem RowsA.rb {h : Heap} {base : Nat} {la : Option Addr} {lc : Nat} {l : List (List Int)} (r : RowsA h base la lc l) : RB h la l := fun i bs hi => by
  obtain ⟨vs, o, hr⟩ := r
  obtain ⟨a', c', e, s, _⟩ := hr i bs hi
  obtain ⟨g, e1, _, hc⟩ := o.cell e
  exact ⟨g, 0, a', c', e1, (o.blk_ge g (by rw [e1]; rfl)).2, by rw [Nat.zero_add]; exact hc, s⟩
theorem RowsA.nil (h : Heap) (base : Nat) : RowsA h base none 0 [] := ⟨[], OwnH.nil _ _ _ _, fun j bs hj => by simp at hj⟩
theorem RowsA.new {h h' : Heap} {base : Nat} {la : Option Addr} {lc : Nat} {l : List (List Int)} (r : RowsA h base la lc l) (n : New h h') : RowsA h' base la lc l := by
  obtain ⟨vs, o, hr⟩ := r
  exact ⟨vs, o.grow n, fun j bs hj => by
    obtain ⟨a', c', e, s, hne⟩ := hr j bs hj
    exact ⟨a', c', e, s.new n, hne⟩⟩
theorem sl_upd {h h' : Heap} {a : Option Addr} {c : Nat} {xs : List Int} {r : Option Nat} (s : Sl8 h a c xs) (u : UpdO r h h') (hne : xs ≠ [] → ∀ g, blkOf a = some g → r ≠ some g) : Sl8 h' a c xs := by
  refine ⟨fun i x hx => ?_, s.le, s.cap, s.nil, s.byt⟩
  obtain ⟨b, o, e, hl, hc⟩ := s.ar i x hx
  have hxs : xs ≠ [] := fun e => by subst e; simp at hx
  exact ⟨b, o, e, Nat.lt_of_lt_of_le hl u.size, by rw [cellH_same (u.same b hl fun e' => hne hxs b (by rw [e]; rfl) e'.symm)]; exact hc⟩
theorem RowsA.only {h h' : Heap} {base b : Nat} {la : Option Addr} {lc : Nat} {l : List (List Int)} (r : RowsA h base la lc l) (o : Only b h h') (hb : b < base) : RowsA h' base la lc l := by
  obtain ⟨vs, ow, hv⟩ := r
  exact ⟨vs, ow.keep fun g _ hg _ _ => o.same g (by omega), fun j bs hj => by
    obtain ⟨a', c', e, s, hne⟩ := hv j bs hj
    exact ⟨a', c', e, sl_upd (r := some b) s ⟨Nat.le_of_eq o.size.symm, fun k _ hk => o.same k fun e => hk (by rw [e])⟩ fun hx g hg e => by
      have := (hne hx g hg).1
      injection e with e; omega, hne⟩⟩
theorem RowsA.push {h : Heap} {base : Nat} {la : Option Addr} {lc : Nat} {l : List (List Int)} (r : RowsA h base la lc l) {bs : List Int} {a1 : Option Addr} {c1 : Nat} (s1 : Sl8 h a1 c1 bs) (hn1 : bs ≠ [] → ∀ g, blkOf a1 = some g → base ≤ g ∧ blkOf la ≠ some g) (hl : l.length ≤ 1000) (hb : base ≤ h.size)
    {F : Option Addr → Nat → Nat → Heap → Prop} (hF : ∀ a' c' h', RowsA h' base a' c' (l ++ [bs]) → UpdO (blkOf la) h h' → (∀ g, blkOf la = some g → base ≤ g) → F a' (l.length + 1) c' h') :
    newW (.cells #[.slice a1 bs.length c1] 68) (fun q h' => apW Tryz.prog #[67, 67] #[.slice la l.length lc, .slice (some q) 1 1] F h') h := by
  obtain ⟨vs, o, hr⟩ := r
  have hvl : vs.length = l.length := by have := o.1; omega
  refine new_of fun h1 b1 n1 s1' => ?_
  have o1 := o.grow n1
  have g1 : Grow h1 (blkOf la) h1 68 1 la l.length lc vs := Grow.start (.inl (o1.low (Nat.zero_le _)))
  refine ap_row ap88 g1.row [.slice a1 bs.length c1] rfl (fun q u hu => ?_) (fun u hu => by rw [List.mem_singleton.1 hu]; rfl) (by simp only [maxLen]; omega) (by omega) fun a' c' h' rr w ow => ?_
  · have hq' : q = 0 := by have := (List.getElem?_eq_some_iff.1 hu).1; simp at this; omega
    subst hq'
    rw [add_mk, cellH_blk b1]; exact hu
  · have u' := w.upd
    have ge : ∀ g, blkOf la = some g → base ≤ g := fun g hg => (o.blk_ge g hg).1
    have go := g1.went rr w
    have o' := grow_up (base := base) go (ow (by omega)) (Nat.le_trans hb n1.size) ge
    have ne : ∀ (x : Option Addr) (c : Nat) (ys : List Int), Sl8 h x c ys → (ys ≠ [] → ∀ g, blkOf x = some g → base ≤ g ∧ blkOf la ≠ some g) → Sl8 h' x c ys ∧ (ys ≠ [] → ∀ g, blkOf x = some g → base ≤ g ∧ blkOf a' ≠ some g) := fun x c ys sx hx => by
      refine ⟨sl_upd (sx.new n1) u' fun hy g hg => (hx hy g hg).2, fun hy g hg => ⟨(hx hy g hg).1, fun e => ?_⟩⟩
      rcases w.at_ with e2 | ⟨g', e2, h3, _⟩
      · rw [e] at e2; exact (hx hy g hg).2 e2.symm
      · rw [e] at e2; injection e2 with e2
        have hlt : g < h.size := by
          cases ys with
          | nil => exact (hy rfl).elim
          | cons y ys =>
            obtain ⟨b', _, e4, hl4, _⟩ := sx.ar 0 y rfl
            rw [e4] at hg; injection hg with hg; change b' = g at hg; omega
        have := n1.size
        omega
    refine hF a' c' h' ⟨vs ++ [.slice a1 bs.length c1], by rw [List.length_append]; exact o', fun j ys hj => ?_⟩ ⟨Nat.le_trans n1.size u'.size, fun k hk hne => (u'.same k (Nat.lt_of_lt_of_le hk n1.size) hne).trans (n1.same k hk)⟩ ge
    by_cases hjl : j < l.length
    · rw [List.getElem?_append_left hjl] at hj
      obtain ⟨a2, c2, e2, s2, hn2⟩ := hr j ys hj
      obtain ⟨s3, hn3⟩ := ne a2 c2 ys s2 hn2
      exact ⟨a2, c2, by rw [List.getElem?_append_left (by omega)]; exact e2, s3, hn3⟩
    · rw [List.getElem?_append_right (by omega)] at hj
      have : j - l.length = 0 := by have := (List.getElem?_eq_some_iff.1 hj).1; simp at this; omega
      rw [this] at hj
      injection hj with hj; subst hj
      have : j = l.length := by omega
      subst this
      obtain ⟨s3, hn3⟩ := ne a1 c1 bs s1 hn1
      exact ⟨a1, c1, by rw [← hvl]; simp, s3, hn3⟩
/- GOING THROUGH A ZONE'S PAGES. -/
theorem pages_ok' (b : Nat) (zone : Int) (h : Heap) :
    CallsH Tryz.prog 53 [ptr b, .int .i64 zone] h fun v h' => v = .func (.func 92) #[] #[.pointer (some ⟨h.size, 0, none⟩), .pointer (some ⟨h.size + 1, 0, none⟩)] ∧ Blk h' h.size #[ptr b] 25 ∧ Blk h' (h.size + 1) #[.int .i64 zone] 3 ∧ New h h' ∧ h'.size = h.size + 2 := by
  refine fun_ok Geo.hm' Tryz.func53 (by kernel_rfl) (F53_eq _ _ _ h) ?_
  unfold F53
  exact new_of fun h1 b1 n1 s1 => new_of fun h2 b2 n2 s2 => by
    rw [s1] at b2 ⊢
    exact ⟨rfl, b1.new n2, b2, n1.trans n2, by omega⟩
structure Sees (k : Nat) (h : Heap) (c0 c1 b : Nat) (zone : Int) (D : Dev) : Prop where
  ptr : cellH h ⟨c0, 0, none⟩ = some (ptr b)
  zone : cellH h ⟨c1, 0, none⟩ = some (.int .i64 zone)
  dev : ∃ t, PRep k t h b D
abbrev HbT : List Ty := [.agg [.int .u8, .int .u32, .int .u32, .int .u32], .sc .slice]
theorem range_pages {Inner : Nat → LoopO → TT HbT → (Bool → Heap → Prop) → Heap → Prop} {E : Nat → LoopO → Heap → Prop} {h : Heap} {k c0 c1 b : Nat} {zone : Int} {D : Dev} (o : DevOk D) (hdn : D.down = false) (hth : D.there zone = true)
    (J : Heap → Nat → Nat → Heap → Prop) (X : Heap → Nat → Heap → Prop)
    (j0 : ∀ hq l, New h hq → h.size ≤ l → l < hq.size → J hq l 0 hq)
    (jo : ∀ hq l i h1 h2, J hq l i h1 → Only l h1 h2 → J hq l i h2)
    (xo : ∀ hq l h1 h2, X hq l h1 → Only l h1 h2 → X hq l h2)
    (jn : ∀ hq l i h1 h2, J hq l i h1 → New h1 h2 → J hq l i h2)
    (jc : ∀ hq l i h1, J hq l i h1 → Sees k h1 c0 c1 b zone D)
    (hI : ∀ hq l o R i p hp h1 ba bc, (D.at_ zone).pages[i]? = some p → (readF p).2.2 = 0 → J hq l i hp → New hp h1 → h1[l]? = some (LoopO.rdy o) → Sl8 h1 ba bc (readF p).2.1 → ((readF p).2.1 ≠ [] → ∀ g, blkOf ba = some g → hp.size ≤ g) →
      (∀ h2, J hq l (i + 1) h2 → roundEnd l (LoopO.rdy o) (R true) h2) → (∀ h2, X hq l h2 → roundEnd l (LoopO.dn o (.exit 1)) (R false) h2) → Inner l o ((readF p).1, (ba, (readF p).2.1.length, bc)) R h1)
    (hE : ∀ hq l o i h3, J hq l i h3 → ((D.at_ zone).pages.length ≤ i ∨ ∃ p, (D.at_ zone).pages[i]? = some p ∧ (readF p).2.2 ≠ 0) → h3[l]? = some (LoopO.rdy o) → E l o h3)
    (hX : ∀ hq l o h3, X hq l h3 → h3[l]? = some (LoopO.dn o (.exit 1)) → E l o h3) :
    rangeW Tryz.prog 92 [] [.pointer (some ⟨c0, 0, none⟩), .pointer (some ⟨c1, 0, none⟩)] HbT Inner E h := by
  rintro l lo ho hl0 hy
  have nb : New h ((h.push (.deferred (some []))).push lo.rdy) := (New.push _ _).trans (New.push _ _)
  have hrdy : ((h.push (.deferred (some []))).push lo.rdy)[h.size + 1]? = some lo.rdy := by rw [Array.getElem?_push, if_pos (by simp)]
  have hsz : ((h.push (.deferred (some []))).push lo.rdy).size = h.size + 2 := by simp
  rw [← hl0] at hrdy
  generalize (h.push (.deferred (some []))).push lo.rdy = hb0 at *
  refine fun_ok Geo.hm' Tryz.func92 (by kernel_rfl) (F92_eq _ _ _ _ hb0) ?_
  unfold F92
  have J0 := j0 hb0 l nb (by omega) (by omega)
  have s0 := jc _ _ _ _ J0
  obtain ⟨t0, r0⟩ := s0.dev
  refine ld_of (c := .ptr) (some ⟨b, 0, none⟩) s0.ptr (ld_of (c := .int .i64) zone s0.zone (call_of (point_ok zone hb0 r0) ?_))
  rintro v h1 ⟨rfl, n1⟩
  have r1 : h1[l]? = some lo.rdy := (n1.same l (by omega)).trans hrdy
  have hpt : D.point zone ≤ 16 := by have := (o.at_ zone).most; have := o.pages; unfold Dev.point; omega
  refine ⟨(D.point zone : Int), rfl, fun (s : Int) h' => ∃ i : Nat, s = i ∧ i ≤ D.point zone ∧ J hb0 l i h' ∧ h'[l]? = some lo.rdy, fun (s : Int) _ => ((D.point zone : Int) - s).toNat, ⟨0, rfl, Nat.zero_le _, jn _ _ _ _ _ J0 n1, r1⟩, ?_⟩
  rintro s j h2 ⟨i, rfl, hi, J2, r2⟩
  refine br_of (fun hlt => ?_) (fun hlt => ?_)
  · have hlt : (i : Int) < (D.point zone : Int) := of_decide_eq_true hlt
    have hiP : i < (D.at_ zone).pages.length := by unfold Dev.point at hlt; omega
    have s2 := jc _ _ _ _ J2
    obtain ⟨t2, d2⟩ := s2.dev
    have hl2 := (Array.getElem?_eq_some_iff.1 r2).1
    refine ld_of (c := .ptr) (some ⟨b, 0, none⟩) s2.ptr (ld_of (c := .int .i64) zone s2.zone (call_of (ZnsP.read_ok o zone (i : Int) h2 d2) ?_))
    rintro v h3 ⟨a3, c3, rfl, g3⟩
    have hrd : D.read zone (i : Int) = if ((D.at_ zone).pages.getD i []).length = 0 then ([], 6) else ((D.at_ zone).pages.getD i [], 0) := by
      have hmo := (o.at_ zone).most
      rw [readE hdn (by rw [hth]; rintro (h | h | h); cases h; omega; omega), if_neg (by omega), Int.toNat_natCast]
    have hget : (D.at_ zone).pages[i]? = some (D.at_ zone).pages[i] := List.getElem?_eq_getElem hiP
    have hgd : (D.at_ zone).pages.getD i [] = (D.at_ zone).pages[i] := by rw [List.getD_eq_getElem?_getD, hget]; rfl
    rw [hgd] at hrd
    generalize hpp : (D.at_ zone).pages[i] = p at *
    have hbyt : Byt p := ((o.at_ zone).page p (by rw [← hpp]; exact List.getElem_mem hiP)).1
    have J3 := jn _ _ _ _ _ J2 g3.new
    have r3 : h3[l]? = some lo.rdy := (g3.new.same l hl2).trans r2
    by_cases hp0 : p.length = 0
    · rw [if_pos hp0] at hrd
      rw [hrd]
      refine ⟨((a3, 0, c3), errV 6), rfl, errV_if 6, br_t rfl (hE hb0 l lo i h3 J3 (.inr ⟨p, hget, ?_⟩) r3)⟩
      unfold readF; rw [if_pos (by omega)]; decide
    rw [if_neg hp0] at hrd
    rw [hrd] at g3 ⊢
    refine ⟨((a3, p.length, c3), errV 0), rfl, errV_if 0, br_f rfl (call_of (Head.read_ok a3 c3 p h3 (Sl8.got g3 hbyt)) ?_)⟩
    rintro v h4 ⟨a4, c4, rfl, g4⟩
    refine ⟨((readF p).1, (a4, (readF p).2.1.length, c4), errV (readF p).2.2), rfl, new_stL (by rw [zeroH]; rfl) fun h5 b5 n5 s5 => ⟨errV_if _, ?_⟩⟩
    have b5 : Blk h5 h4.size (hdA (readF p).1) 90 := b5
    have n25 := (g3.new.trans g4.new).trans n5
    have J5 := jn _ _ _ _ _ J2 n25
    have r5 : h5[l]? = some lo.rdy := (n25.same l hl2).trans r2
    refine br_of (fun he => ?_) fun he => ?_
    · have he : (readF p).2.2 ≠ 0 := by simpa [errV_nil] using he
      exact hE hb0 l lo i h5 J5 (.inr ⟨p, hget, he⟩) r5
    have he : (readF p).2.2 = 0 := by simpa [errV_nil] using he
    refine ldAgg_blk (readF p).1 b5 ⟨rfl, rfl, rfl, rfl, trivial⟩ ?_
    have hY := hy ((readF p).1, (a4, (readF p).2.1.length, c4)) h5 (fun t h' => (t = true ∧ J hb0 l (i + 1) h' ∧ h'[l]? = some lo.rdy) ∨ (t = false ∧ X hb0 l h' ∧ h'[l]? = some (lo.dn (.exit 1)))) r5
      (hI hb0 l lo _ i p h2 h5 a4 c4 hget he J2 n25 r5 ((Sl8.got g4 (Slt.readF_byt hbyt)).new n5) (fun hx g hg => by have := g4.at_ hx g hg; have := g3.new.size; omega)
        (fun h6 J6 h7 o7 r7 => .inl ⟨rfl, jo _ _ _ _ _ J6 o7, r7⟩) (fun h6 X6 h7 o7 r7 => .inr ⟨rfl, xo _ _ _ _ X6 o7, r7⟩))
    refine Ck.yield_of hY ?_
    rintro t h6 (⟨rfl, J6, r6⟩ | ⟨rfl, X6, r6⟩)
    · have ez : IntKind.wrap .i64 ((i : Int) + 1) = ((i + 1 : Nat) : Int) := (by first | (rw [wr64 (by omega) (by omega)]; omega) | (simp only [IntKind.wrap_i64]; omega))
      refine ⟨true, rfl, br_f rfl ?_⟩
      rw [ez]
      exact ⟨⟨i + 1, rfl, by omega, J6, r6⟩, (by first | omega | (dsimp only; omega) | (simp only []; omega))⟩
    · exact ⟨false, rfl, br_t rfl (hX hb0 l lo h6 X6 r6)⟩
  · have hlt : ¬ (i : Int) < (D.point zone : Int) := of_decide_eq_false hlt
    exact hE hb0 l lo i h2 J2 (.inl (by unfold Dev.point at hlt; omega)) r2
end Go.Proofs.YthimfpkkdhpceaaGreatDoor.Slt
/-
  The contracts of package slot: Read, Newest.
-/
namespace Go.Proofs.YthimfpkkdhpceaaGreatDoor.Slt
open Go.Pl Go.Proofs.YthimfpkkdhpceaaGreatDoor.W Go.Proofs.YthimfpkkdhpceaaGreatDoor.Byts Go.Proofs.YthimfpkkdhpceaaGreatDoor.Four Go.Proofs.YthimfpkkdhpceaaGreatDoor.Adl Go.Proofs.YthimfpkkdhpceaaGreatDoor.As Go.Proofs.YthimfpkkdhpceaaGreatDoor.Err Go.Proofs.YthimfpkkdhpceaaGreatDoor.Head Go.Proofs.YthimfpkkdhpceaaGreatDoor.HdP Go.Proofs.YthimfpkkdhpceaaGreatDoor.Geo Go.Proofs.YthimfpkkdhpceaaGreatDoor.Zns Go.Proofs.YthimfpkkdhpceaaGreatDoor.ZnsP Go.Proofs.YthimfpkkdhpceaaGreatDoor.Ck Go.Proofs.YthimfpkkdhpceaaGreatDoor.Rng
theorem not_t {b : Bool} (h : (!b) = true) : b = false := by cases b <;> simp_all
theorem not_f {b : Bool} (h : (!b) = false) : b = true := by cases b <;> simp_all
/-- On the way: the blocks so far are in the variable B, the first head in A. -/
structure JV (B A : Nat) (hq : Heap) (l : Nat) (pre : List (List Int)) (y : Hd) (h' : Heap) : Prop where
  sizes : hq.size ≤ h'.size
  same : ∀ b, b < hq.size → b ≠ B → b ≠ A → b ≠ l → h'[b]? = hq[b]?
  lB : B < l
  lA : A < l
  lq : l < hq.size
  BA : B ≠ A
  var : ∃ la lc, Blk h' B #[.slice la pre.length lc] 67 ∧ RowsA h' hq.size la lc pre
  fst : Blk h' A (hdA y) 90
theorem JV.only {B A l : Nat} {hq h1 h2 : Heap} {pre : List (List Int)} {y : Hd} (j : JV B A hq l pre y h1) (o : Only l h1 h2) : JV B A hq l pre y h2 := by
  obtain ⟨la, lc, hb, rw'⟩ := j.var
  have h3 := j.lB; have h4 := j.lA; have h5 := j.lq
  exact ⟨by rw [o.size]; exact j.sizes, fun b hb h1 h2 h3 => (o.same b h3).trans (j.same b hb h1 h2 h3), h3, h4, h5, j.BA, ⟨la, lc, hb.only o (by omega), rw'.only o h5⟩, j.fst.only o (by omega)⟩
theorem JV.new {B A l : Nat} {hq h1 h2 : Heap} {pre : List (List Int)} {y : Hd} (j : JV B A hq l pre y h1) (o : New h1 h2) : JV B A hq l pre y h2 := by
  obtain ⟨la, lc, hb, rw'⟩ := j.var
  have hs := j.sizes
  exact ⟨Nat.le_trans hs o.size, fun b hb h1 h2 h3 => (o.same b (by omega)).trans (j.same b hb h1 h2 h3), j.lB, j.lA, j.lq, j.BA, ⟨la, lc, hb.new o, rw'.new o⟩, j.fst.new o⟩
theorem JV.setA {B A l : Nat} {hq h1 : Heap} {pre : List (List Int)} {y : Hd} (j : JV B A hq l pre y h1) (z : Hd) {F : Heap → Prop} (hF : ∀ h2, JV B A hq l pre z h2 → Only A h1 h2 → F h2) :
    stLW ⟨A, 0, none⟩ [.int .u8 z.1, .int .u32 z.2.1, .int .u32 z.2.2.1, .int .u32 z.2.2.2] F h1 := by
  obtain ⟨la, lc, hb, rw'⟩ := j.var
  refine stL_blk j.fst (Nat.le_refl 4) fun h2 b2 o2 => hF h2 ⟨by rw [o2.size]; exact j.sizes, fun b hb h1 h2 h3 => (o2.same b h2).trans (j.same b hb h1 h2 h3), j.lB, j.lA, j.lq, j.BA, ⟨la, lc, hb.only o2 j.BA, rw'.only o2 (by have := j.lA; have := j.lq; omega)⟩, ?_⟩ o2
  rw [setsA_all (by rfl)] at b2
  exact b2
theorem JV.push {B A l : Nat} {hq h1 : Heap} {pre : List (List Int)} {y : Hd} {la : Option Addr} {lc : Nat} (j : JV B A hq l pre y h1) (hb : Blk h1 B #[.slice la pre.length lc] 67) (rr : RowsA h1 hq.size la lc pre) {bs : List Int} {a1 : Option Addr} {c1 : Nat} (s1 : Sl8 h1 a1 c1 bs) (hn1 : bs ≠ [] → ∀ g, blkOf a1 = some g → hq.size ≤ g ∧ blkOf la ≠ some g) (hl : pre.length ≤ 1000) {F : Heap → Prop}
    (hF : ∀ h2, JV B A hq l (pre ++ [bs]) y h2 → F h2) :
    newW (.cells #[.slice a1 bs.length c1] 68) (fun q h' => apW Tryz.prog #[67, 67] #[.slice la pre.length lc, .slice (some q) 1 1] (fun b64 n65 c66 h67 => stW ⟨B, 0, none⟩ (.slice b64 n65 c66) F h67) h') h1 := by
  have h3 := j.lB; have h4 := j.lA; have h5 := j.lq; have hs := j.sizes
  refine rr.push s1 hn1 hl hs fun a' c' h2 r2 u2 ge => ?_
  have low : ∀ b, b < hq.size → h2[b]? = h1[b]? := fun b hb => u2.same b (by omega) fun e => by have := ge b e.symm; omega
  have b2 : Blk h2 B #[.slice la pre.length lc] 67 := (low B (by omega)).trans hb
  have f2 : Blk h2 A (hdA y) 90 := (low A (by omega)).trans j.fst
  refine st_blk b2 (by simp) fun h6 b6 o6 => hF h6 ⟨by rw [o6.size]; have := u2.size; omega, fun b hb h1 h2 h3 => by rw [o6.same b h1, low b hb, j.same b hb h1 h2 h3], h3, h4, h5, j.BA, ⟨a', c', ?_, r2.only o6 (by omega)⟩, f2.only o6 (Ne.symm j.BA)⟩
  have e : (pre ++ [bs]).length = pre.length + 1 := by simp
  rw [e]; exact b6
theorem put_taken {h1 : Heap} {b n : Nat} {arr : Array Value} {T : TypeId} {c : Chk} {da : Option Addr} {dc : Nat} {K : Value → Heap → Prop} {e : Value} (bb : Blk h1 b arr T) (hs : arr.size = 7) (hK : ∀ h2 h', Blk h2 b (chkA c da dc) T → Only b h1 h2 → Taken n h2 h' → K (.tuple #[chkV c da dc, e]) h') :
    stLW ⟨b, 0, none⟩ [.int .u32 c.num, .int .u32 c.ses, .int .u32 c.seq, .int .i64 c.z, .int .i64 c.p, .int .i64 c.b, .slice da c.dir.length dc] (fun h4 => ∀ h5, Taken n h4 h5 → ldAggW ChkY ⟨b, 0, none⟩ (fun (x5 : ChkC) => K (outC x5 e) h5) h5) h1 := by
  refine stL_blk bb (by rw [hs]; exact Nat.le_refl 7) fun h2 b2 o2 h3 t3 => ?_
  rw [setsA_all (by rw [hs]; rfl)] at b2
  have b2 : Blk h2 b (chkA c da dc) T := b2
  have b3 : Blk h3 b (chkA c da dc) T := (Tk_blk t3 b2).trans b2
  exact ldChk (c := c) (da := da) (dc := dc) b3 (hK h2 h3 b2 o2 t3)
def ReadSP (D : Dev) (zone : Int) (h : Heap) (v : Value) (h' : Heap) : Prop := ∃ da dc e l, v = .tuple #[chkV (readS D zone).1 da dc, e] ∧ ErrB h.size h' e l (readS D zone).2 ∧ OwnH h' h.size 35 1 da (readS D zone).1.dir.length dc ((readS D zone).1.dir.map (Value.int .u32)) ∧ New h h'
theorem zeroBB : zeroC Tryz.prog 67 = #[.slice none 0 0] := by kernel_rfl
theorem first_ok {P : List (List Int)} {i : Nat} {p : List Int} (hp : P[i]? = some p) (h0 : i = 0) : firstS P = (readF p).1 := by
  subst h0
  cases P with
  | nil => simp at hp
  | cons q P => simp at hp; subst hp; rfl
theorem sread_ok {k b : Nat} {t : Tags} {D : Dev} (o : DevOk D) (zone : Int) (h : Heap) (r : PRep k t h b D) :
    CallsH Tryz.prog 17 [ptr b, .int .i64 zone] h (ReadSP D zone h) := by
  refine fun_ok Geo.hm' Tryz.func17 (by kernel_rfl) (F17_eq _ _ _ h) ?_
  unfold F17
  have hzs := o.zones
  refine new_of fun h1 b1 n1 s1 => ?_
  rw [zeroK] at b1
  have r1 := r.new n1
  -- what there is none of
  have err : ∀ (e : Int) (hx : Heap), e ≠ 0 → readS D zone = (ck0, e) → ∀ h2 h', New h hx → Blk hx h.size (chkA ck0 none 0) 40 → Only h.size hx h2 → Taken h.size h2 h' → ReadSP D zone h (.tuple #[chkV ck0 none 0, .iface 31 (.int .i64 e)]) h' := by
    intro e hx he hr h2 h' nx _ o2 t3
    unfold ReadSP
    rw [hr]
    refine ⟨none, 0, errV e, [], by rw [errV_ne he], rfl, OwnH.nil _ _ _ _, ⟨by rw [t3.size, o2.size]; exact nx.size, fun q hq => ?_⟩⟩
    rw [Tk_low t3 hq, o2.same q (by omega), nx.same q hq]
  refine cut_q (ts := [.sc .any]) (fun s h' => h' = h1 ∧ D.down = false ∧ ¬ ((D.zs.length : Int) < 2 ∨ zone < (D.zs.length : Int) - 2 ∨ zone ≥ (D.zs.length : Int))) ?_ ?_
  rotate_left
  · intro K hK
    refine call_of (down_ok h1 r1) ?_
    rintro v h' ⟨rfl, hh⟩; subst h'
    refine ⟨D.down, rfl, br_of (fun hd => ?_) fun hd => call_of (zones_ok h1 r1) ?_⟩
    · exact put_taken (K := ReadSP D zone h) (c := ck0) (da := none) (dc := 0) b1 rfl fun h2 h' b2 o2 t2 => err 7 h1 (by decide) (by unfold readS; rw [if_pos hd]) h2 h' n1 b1 o2 t2
    have arg : ((D.zs.length : Int) < 2 ∨ zone < (D.zs.length : Int) - 2 ∨ zone ≥ (D.zs.length : Int)) → readS D zone = (ck0, 1) := fun h => by unfold readS; rw [if_neg (by rw [hd]; simp), if_pos h]
    rintro v h' ⟨rfl, hh⟩; subst h'
    refine ⟨(D.zs.length : Int), rfl, br_of (fun h2 => ?_) fun h2 => call_of (zones_ok h1 r1) ?_⟩
    · have h2 : (D.zs.length : Int) < 2 := of_decide_eq_true h2
      exact put_taken (K := ReadSP D zone h) (c := ck0) (da := none) (dc := 0) b1 rfl fun h2' h' b2 o2 t2 => err 1 h1 (by decide) (arg (.inl h2)) h2' h' n1 b1 o2 t2
    have h2 : ¬ (D.zs.length : Int) < 2 := of_decide_eq_false h2
    rintro v h' ⟨rfl, hh⟩; subst h'
    have ew : IntKind.wrap .i64 ((D.zs.length : Int) - 2) = (D.zs.length : Int) - 2 := wr64 (by omega) (by omega)
    refine ⟨(D.zs.length : Int), rfl, ?_⟩
    rw [ew]
    refine br_of (fun h3 => ?_) fun h3 => call_of (zones_ok h1 r1) ?_
    · have h3 : zone < (D.zs.length : Int) - 2 := of_decide_eq_true h3
      exact put_taken (K := ReadSP D zone h) (c := ck0) (da := none) (dc := 0) b1 rfl fun h2' h' b2 o2 t2 => err 1 h1 (by decide) (arg (.inr (.inl h3))) h2' h' n1 b1 o2 t2
    have h3 : ¬ zone < (D.zs.length : Int) - 2 := of_decide_eq_false h3
    rintro v h' ⟨rfl, hh⟩; subst h'
    refine ⟨(D.zs.length : Int), rfl, br_of (fun h4 => ?_) fun h4 => hK _ _ ⟨rfl, hd, ?_⟩⟩
    · have h4 : zone ≥ (D.zs.length : Int) := of_decide_eq_true h4
      exact put_taken (K := ReadSP D zone h) (c := ck0) (da := none) (dc := 0) b1 rfl fun h2' h' b2 o2 t2 => err 1 h1 (by decide) (arg (.inr (.inr h4))) h2' h' n1 b1 o2 t2
    · have h4 : ¬ zone ≥ (D.zs.length : Int) := of_decide_eq_false h4
      omega
  rintro s25 h' ⟨hh, hdn, hzn⟩ _; subst h'
  have hth : D.there zone = true := decide_eq_true (by omega)
  refine new_of fun h2 b2 n2 s2 => new_of fun h3 b3 n3 s3 => ?_
  rw [zeroBB] at b2
  rw [zeroH] at b3
  have n03 := (n1.trans n2).trans n3
  have b13 := (b1.new n2).new n3
  have b23 := b2.new n3
  generalize hP : (D.at_ zone).pages = P at *
  have hPlen : P.length ≤ 16 := by rw [← hP]; have := (o.at_ zone).most; have := o.pages; omega
  have hbyt : ∀ q ∈ P, Byt q := fun q hq => ((o.at_ zone).page q (by rw [hP]; exact hq)).1
  refine cut_q (ts := []) (fun _ h' => New h h' ∧ Blk h' h.size (chkA ck0 none 0) 40 ∧ (∃ la lc, Blk h' h1.size #[.slice la (heldS P).length lc] 67 ∧ RB h' la (heldS P)) ∧ Blk h' h2.size (hdA (firstS P)) 90 ∧ PRep k (lay t h.size (0, 0)) h' b D) ?_ ?_
  rotate_left
  · intro K hK
    refine call_of (pages_ok' b zone h3) ?_
    rintro v h4 ⟨rfl, bc0, bc1, n4, s4⟩
    refine ⟨_, rfl, ?_⟩
    have n04 := n03.trans n4
    have hs3 := n03.size
    have dev : ∀ hq l pre y hx, JV h1.size h2.size hq l pre y hx → New h4 hq → h4.size ≤ l → PRep k (lay t h.size (0, 0)) hx b D := fun hq l pre y hx j nq hl =>
      r.fr (S := fun _ => True) ⟨Nat.le_trans (n04.trans nq).size j.sizes, fun c hc => lay_lt hc, fun c hc _ => (j.same c (Nat.lt_of_lt_of_le hc (n04.trans nq).size) (by omega) (by omega) (by have := n04.size; omega)).trans ((n04.trans nq).same c hc)⟩ (fun _ _ => trivial) fun _ => trivial
    have fin : ∀ hq l hx, JV h1.size h2.size hq l (heldS P) (firstS P) hx → New h4 hq → h4.size ≤ l → K () hx := fun hq l hx j nq hl => by
      obtain ⟨la, lc, hb, rr⟩ := j.var
      refine hK _ _ ⟨⟨Nat.le_trans (n04.trans nq).size j.sizes, fun c hc => (j.same c (Nat.lt_of_lt_of_le hc (n04.trans nq).size) (by omega) (by omega) (by have := n04.size; omega)).trans ((n04.trans nq).same c hc)⟩, ?_, ⟨la, lc, hb, rr.rb⟩, j.fst, dev hq l _ _ hx j nq hl⟩
      exact (j.same h.size (by have := (n04.trans nq).size; have := nq.size; omega) (by omega) (by omega) (by omega)).trans ((b13.new n4).new nq)
    refine range_pages (k := k) (b := b) (c0 := h3.size) (c1 := h3.size + 1) (zone := zone) (D := D) o hdn hth
      (fun hq l i hx => (∃ pre y, pre.length = i ∧ heldS P = pre ++ colS (firstS P).2.1 (firstS P).2.2.2 i (P.drop i) ∧ (i = 0 → y = hdZ) ∧ (i ≠ 0 → y = firstS P) ∧ JV h1.size h2.size hq l pre y hx) ∧ New h4 hq ∧ h4.size ≤ l)
      (fun hq l hx => JV h1.size h2.size hq l (heldS P) (firstS P) hx ∧ New h4 hq ∧ h4.size ≤ l)
      (fun hq l nq hl hlq => ⟨⟨[], hdZ, rfl, rfl, fun _ => rfl, fun h => (h rfl).elim, ⟨Nat.le_refl _, fun _ _ _ _ _ => rfl, by omega, by omega, hlq, by omega, ⟨none, 0, (b23.new n4).new nq, RowsA.nil _ _⟩, (b3.new n4).new nq⟩⟩, nq, hl⟩)
      (fun hq l i hx hy j oo => by
        obtain ⟨⟨pre, y, e1, e2, e3, e4, j⟩, hr⟩ := j
        exact ⟨⟨pre, y, e1, e2, e3, e4, j.only oo⟩, hr⟩)
      (fun hq l hx hy ⟨j, hr⟩ oo => ⟨j.only oo, hr⟩)
      (fun hq l i hx hy j nn => by
        obtain ⟨⟨pre, y, e1, e2, e3, e4, j⟩, hr⟩ := j
        exact ⟨⟨pre, y, e1, e2, e3, e4, j.new nn⟩, hr⟩)
      (fun hq l i hx ⟨⟨pre, y, _, _, _, _, j⟩, nq, hl⟩ => ?_) ?_ ?_ ?_
    · have hq4 := nq.size
      refine ⟨by rw [cellH_blk ((j.same h3.size (by omega) (by omega) (by omega) (by omega)).trans (bc0.new nq))]; rfl, by rw [cellH_blk ((j.same (h3.size + 1) (by omega) (by omega) (by omega) (by omega)).trans (bc1.new nq))]; rfl, _, dev hq l _ _ hx j nq hl⟩
    · rintro hq l lo R i p hp h5 ba bc hpi hpe ⟨⟨pre, y, e1, e2, e3, e4, j⟩, nq, hl⟩ n5 r5 sb hge hend hexit
      rw [hP] at hpi
      have hiP : i < P.length := (List.getElem?_eq_some_iff.1 hpi).1
      have hl5 := (Array.getElem?_eq_some_iff.1 r5).1
      have hdrop : P.drop i = p :: P.drop (i + 1) := by
        rw [List.drop_eq_getElem_cons hiP]
        congr 1
        exact (List.getElem?_eq_some_iff.1 hpi).2
      rw [hdrop] at e2
      refine new_stL (by rw [zeroH]; rfl) fun h6 b6 n6 s6 => ⟨(n6.same l hl5).trans r5, fun h7 o7 _ => ?_⟩
      have b6 : Blk h6 h5.size (hdA (readF p).1) 90 := b6
      have b7 := b6.only o7 (by omega)
      have j7 := ((j.new n5).new n6).only o7
      have sb7 : Sl8 h7 ba bc (readF p).2.1 := sl_upd (r := some l) (sb.new n6) ⟨Nat.le_of_eq o7.size.symm, fun q _ hq => o7.same q fun e => hq (by rw [e])⟩ fun hx g hg e => by
        have h8 := hge hx g hg
        have h9 := j.sizes; have h10 := j.lq
        injection e with e; omega
      obtain ⟨la, lc, hbB, rr⟩ := j7.var
      obtain ⟨la0, lc0, hbB0, rr0⟩ := j.var
      have hBlow := j.lB; have hAlow := j.lA
      have hbe : ∀ (x : Array Value), Blk h7 h1.size x 67 → Blk hp h1.size x 67 := fun x hx => by
        have e := (o7.same h1.size (by omega)).trans ((n6.same h1.size (by have := j.lq; have := j.sizes; have := n5.size; omega)).trans (n5.same h1.size (by have := j.lq; have := j.sizes; omega)))
        exact e.symm.trans hx
      have hla : la = la0 ∧ lc = lc0 := by
        have := Blk.inj (hbe _ hbB) hbB0
        simp at this; exact this
      obtain ⟨rfl, rfl⟩ := hla
      refine cut_q (ts := []) (fun _ h' => (∀ q, blkOf la = some q → q < hp.size) ∧ JV h1.size h2.size hq l pre (firstS P) h' ∧ Blk h' h1.size #[.slice la pre.length lc] 67 ∧ RowsA h' hq.size la lc pre ∧ Sl8 h' ba bc (readF p).2.1 ∧ Blk h' h5.size (hdA (readF p).1) 90) ?_ ?_
      rotate_left
      · intro K2 hK2
        have hlt : ∀ q, blkOf la = some q → q < hp.size := fun q hq => by
          obtain ⟨vs, ow, _⟩ := rr0
          exact (ow.blk_ge q hq).2
        refine ld_of (c := .slice) (la, pre.length, lc) (by rw [cellH_blk hbB]; rfl) (br_of (fun h0 => ?_) fun h0 => ?_)
        · have h0 : pre = [] := by simpa using h0
          have h0 : i = 0 := by rw [← e1, h0]; rfl
          have hf := first_ok hpi h0
          refine ldAgg_blk (readF p).1 b7 ⟨rfl, rfl, rfl, rfl, trivial⟩ (j7.setA (readF p).1 fun h8 j8 o8 => hK2 _ _ ⟨hlt, by rw [hf]; exact j8, hbB.only o8 (by omega), rr.only o8 (by have := j.lA; have := j.lq; omega), ?_, b7.only o8 (by have := j.sizes; have := n5.size; omega)⟩)
          exact sl_upd (r := some h2.size) sb7 ⟨Nat.le_of_eq o8.size.symm, fun q _ hq => o8.same q fun e => hq (by rw [e])⟩ fun hx g hg e => by
            have h8 := hge hx g hg
            have h9 := j.sizes; have h10 := j.lq
            injection e with e; omega
        · have h0 : i ≠ 0 := by intro e; rw [e] at e1; simp [e1] at h0
          have hy := e4 h0
          rw [hy] at j7
          exact hK2 _ _ ⟨hlt, j7, hbB, rr, sb7, b7⟩
      rintro _ h8 ⟨hlt, j8, hbB8, rr8, sb8, b8⟩ _
      have hidx : IntKind.wrap .u32 ((pre.length : Nat) : Int) = (i : Int) := by rw [wru32, e1]; omega
      refine ld_of (c := .int .u32) (firstS P).2.1 (by rw [add_mk, cellH_blk j8.fst]; rfl) (ld_of (c := .slice) (la, pre.length, lc) (by rw [cellH_blk hbB8]; rfl) (ld_of (c := .int .u32) (firstS P).2.2.2 (by rw [add_mk, cellH_blk j8.fst]; rfl) ?_))
      simp only [hidx]
      refine new_stL (by rw [zeroH]; rfl) fun h9 b9 n9 s9 => ?_
      have b9 : Blk h9 h8.size (hdA (5, (firstS P).2.1, (i : Int), (firstS P).2.2.2)) 90 := b9
      have j9 := j8.new n9
      refine ldAgg_blk (readF p).1 (b8.new n9) ⟨rfl, rfl, rfl, rfl, trivial⟩ (ldAgg_blk ((5 : Int), (firstS P).2.1, (i : Int), (firstS P).2.2.2) b9 ⟨rfl, rfl, rfl, rfl, trivial⟩ ⟨_, HdP.hd_eq _ _, br_of (fun hne => ?_) fun heq => ?_⟩)
      · have hne : (readF p).1 ≠ (5, (firstS P).2.1, (i : Int), (firstS P).2.2.2) := of_decide_eq_false (not_t hne)
        have e5 : colS (firstS P).2.1 (firstS P).2.2.2 i (p :: P.drop (i + 1)) = [] := by rw [colS, if_neg (fun h => hne h.2)]
        rw [e5, List.append_nil] at e2
        exact hexit h9 ⟨by rw [e2]; exact j9, nq, hl⟩
      · have heq : (readF p).1 = (5, (firstS P).2.1, (i : Int), (firstS P).2.2.2) := of_decide_eq_true (not_f heq)
        have e5 : colS (firstS P).2.1 (firstS P).2.2.2 i (p :: P.drop (i + 1)) = (readF p).2.1 :: colS (firstS P).2.1 (firstS P).2.2.2 (i + 1) (P.drop (i + 1)) := by rw [colS, if_pos ⟨hpe, heq⟩]
        rw [e5] at e2
        refine ld_of (c := .slice) (la, pre.length, lc) (by rw [cellH_blk (hbB8.new n9)]; rfl) ?_
        refine j9.push (hbB8.new n9) (rr8.new n9) (sb8.new n9) (fun hx g hg => ⟨by have := hge hx g hg; have := j.sizes; omega, fun e => by have := hge hx g hg; have := hlt g e; omega⟩) (by omega) fun h10 j10 => hend h10 ⟨⟨pre ++ [(readF p).2.1], firstS P, by simp [e1], by rw [e2, List.append_assoc]; rfl, fun h => by omega, fun _ => rfl, j10⟩, nq, hl⟩
    · rintro hq l lo i h5 ⟨⟨pre, y, e1, e2, e3, e4, j⟩, nq, hl⟩ hdone r5
      rw [hP] at hdone
      have hnil : colS (firstS P).2.1 (firstS P).2.2.2 i (P.drop i) = [] := by
        rcases hdone with h6 | ⟨p, hpi, hpe⟩
        · rw [List.drop_of_length_le h6]; rfl
        · rw [List.drop_eq_getElem_cons (List.getElem?_eq_some_iff.1 hpi).1, (List.getElem?_eq_some_iff.1 hpi).2, colS, if_neg (fun h => hpe h.1)]
      rw [hnil, List.append_nil] at e2
      have hy : y = firstS P := by
        by_cases h0 : i = 0
        · rw [e3 h0]
          rcases hdone with h6 | ⟨p, hpi, hpe⟩
          · have : P = [] := List.eq_nil_of_length_eq_zero (by omega)
            rw [this]; rfl
          · rw [first_ok hpi h0, readF_nz hpe]
        · exact e4 h0
      rw [← e2, hy] at j
      exact .inl ⟨r5, fun h6 o6 => fin hq l h6 (j.only o6) nq hl⟩
    · rintro hq l lo h5 ⟨j, nq, hl⟩ r5
      exact .inr (.inr (.inl ⟨r5, fun h6 o6 => fin hq l h6 (j.only o6) nq hl⟩))
  rintro _ h4 ⟨n04, b14, ⟨la, lc, bB, rbb⟩, bA, d4⟩ _
  have hheld : (heldS P).length ≤ 16 := Nat.le_trans (col_take _ _ P 0) hPlen
  have hcb := col_byt (firstS P).2.1 (firstS P).2.2.2 P 0 hbyt
  refine ld_of (c := .slice) (la, (heldS P).length, lc) (by rw [cellH_blk bB]; rfl) (call_of (Ck.read_ok la lc (heldS P) h4 rbb (by omega)) ?_)
  rintro v h5 ⟨da, dc, rfl, o5, n5⟩
  refine ⟨(chkC (readC (heldS P)).1 da dc, errV (readC (heldS P)).2), rfl, new_stL (by rw [zeroK]; rfl) fun h6 b6 n6 s6 => ?_⟩
  have b6 : Blk h6 h5.size (chkA (readC (heldS P)).1 da dc) 40 := b6
  have n46 := n5.trans n6
  have n06 := n04.trans n46
  have d6 := d4.new n46
  have b16 := b14.new n46
  have bB6 := bB.new n46
  have bA6 := bA.new n46
  have ock : ChkOk (readC (heldS P)).1 := readC_ok fun b hb => (hcb b hb).1
  have hrs : readS D zone = if badS D zone P then (ck0, 10) else ((readC (heldS P)).1, 0) := by
    unfold readS
    rw [if_neg (by rw [hdn]; simp), if_neg hzn, hP]
  have cB : cellH h6 ⟨h1.size, 0, none⟩ = some (.slice la (heldS P).length lc) := by rw [cellH_blk bB6]; rfl
  have c0 : cellH h6 (Addr.add (Addr.add ⟨h5.size, 0, none⟩ 3) 0) = some (.int .i64 (readC (heldS P)).1.z) := by rw [add_mk, add_mk, cellH_blk b6]; rfl
  have c1 : cellH h6 (Addr.add (Addr.add ⟨h5.size, 0, none⟩ 3) 1) = some (.int .i64 (readC (heldS P)).1.p) := by rw [add_mk, add_mk, cellH_blk b6]; rfl
  have cn : cellH h6 (Addr.add ⟨h5.size, 0, none⟩ 0) = some (.int .u32 (readC (heldS P)).1.num) := by rw [add_mk, cellH_blk b6]; rfl
  have cs : cellH h6 (Addr.add ⟨h5.size, 0, none⟩ 1) = some (.int .u32 (readC (heldS P)).1.ses) := by rw [add_mk, cellH_blk b6]; rfl
  have f3 : cellH h6 (Addr.add ⟨h2.size, 0, none⟩ 3) = some (.int .u32 (firstS P).2.2.2) := by rw [add_mk, cellH_blk bA6]; rfl
  have f1 : cellH h6 (Addr.add ⟨h2.size, 0, none⟩ 1) = some (.int .u32 (firstS P).2.1) := by rw [add_mk, cellH_blk bA6]; rfl
  refine cut_q (ts := [.sc .bool]) (fun s h' => s = decide (badS D zone P) ∧ New h6 h') ?_ ?_
  rotate_left
  · intro K hK
    have yes : badS D zone P → ∀ hx, New h6 hx → K true hx := fun hb hx nx => hK _ _ ⟨(decide_eq_true hb).symm, nx⟩
    refine ⟨errV_if _, br_of (fun he => yes (.inl (by simpa [errV_nil] using he)) _ (New.refl _)) fun he => ?_⟩
    have he : (readC (heldS P)).2 = 0 := by simpa [errV_nil] using he
    refine ld_of (c := .slice) (la, (heldS P).length, lc) cB (call_of (point_ok zone h6 d6) ?_)
    rintro v h7 ⟨rfl, n7⟩
    have k1 : ∀ {a : Addr} {v : Value}, a.block < h6.size → cellH h6 a = some v → cellH h7 a = some v := fun ha hc => by rw [cellH_new n7 ha]; exact hc
    have hl5 := b6.lt; have hlB := bB6.lt; have hlA := bA6.lt
    have cB7 := k1 hlB cB
    have c07 := k1 (a := Addr.add (Addr.add ⟨h5.size, 0, none⟩ 3) 0) (by rw [add_mk, add_mk]; exact hl5) c0
    have c17 := k1 (a := Addr.add (Addr.add ⟨h5.size, 0, none⟩ 3) 1) (by rw [add_mk, add_mk]; exact hl5) c1
    have cn7 := k1 (a := Addr.add ⟨h5.size, 0, none⟩ 0) (by rw [add_mk]; exact hl5) cn
    have cs7 := k1 (a := Addr.add ⟨h5.size, 0, none⟩ 1) (by rw [add_mk]; exact hl5) cs
    have f37 := k1 (a := Addr.add ⟨h2.size, 0, none⟩ 3) (by rw [add_mk]; exact hlA) f3
    have f17 := k1 (a := Addr.add ⟨h2.size, 0, none⟩ 1) (by rw [add_mk]; exact hlA) f1
    have d7 := d6.new n7
    have hpt : D.point zone = P.length := by unfold Dev.point; rw [hP]
    rw [hpt]
    refine ⟨(P.length : Int), rfl, cB7, br_of (fun h1 => yes (.inr (.inl ?_)) _ n7) fun h1 => ?_⟩
    · have h1 : ¬ ((heldS P).length : Int) = (P.length : Int) := by simpa using h1
      omega
    have h1 : (heldS P).length = P.length := by
      have h1 : ((heldS P).length : Int) = (P.length : Int) := by simpa using h1
      omega
    refine ld_of (c := .int .u32) (readC (heldS P)).1.num cn7 (ld_of (c := .int .u32) (firstS P).2.2.2 f37 (br_of (fun h2 => yes (.inr (.inr (.inl (by simpa using h2)))) _ n7) fun h2 => ?_))
    refine ld_of (c := .int .u32) (readC (heldS P)).1.ses cs7 (ld_of (c := .int .u32) (firstS P).2.1 f17 (br_of (fun h3 => yes (.inr (.inr (.inr (.inl (by simpa using h3))))) _ n7) fun h3 => ?_))
    refine ld_of (c := .int .i64) (readC (heldS P)).1.z c07 (call_of (zones_ok h7 d7) ?_)
    rintro v h' ⟨rfl, hh⟩; subst h'
    refine ⟨(D.zs.length : Int), rfl, c07, cB7, br_of (fun h4 => yes (.inr (.inr (.inr (.inr (.inl (by simpa using h4)))))) _ n7) fun h4 => ?_⟩
    refine ld_of (c := .int .i64) (readC (heldS P)).1.p c17 (call_of (pages_ok h7 d7) ?_)
    rintro v h' ⟨rfl, hh⟩; subst h'
    refine ⟨(D.P : Int), rfl, c17, c07, cB7, br_of (fun h5 => yes (.inr (.inr (.inr (.inr (.inr (.inl (by simpa using h5))))))) _ n7) fun h5 => ?_⟩
    refine ld_of (c := .int .u32) (readC (heldS P)).1.num cn7 (call_of (where_ok o _ ock.num h7 d7) ?_)
    rintro v h' ⟨rfl, hh⟩; subst h'
    refine ⟨whereS D (readC (heldS P)).1.num, rfl, c17, c07, cB7, hK _ _ ⟨?_, n7⟩⟩
    have h2 : (readC (heldS P)).1.num = (firstS P).2.2.2 := by simpa using h2
    have h3 : (readC (heldS P)).1.ses = (firstS P).2.1 := by simpa using h3
    have h4 : (readC (heldS P)).1.z = (D.zs.length : Int) := by simpa using h4
    have h5 : (readC (heldS P)).1.p = (D.P : Int) := by simpa using h5
    by_cases e : whereS D (readC (heldS P)).1.num = zone
    · have e2 : (whereS D (readC (heldS P)).1.num != zone) = false := by simp [e]
      refine e2.trans (decide_eq_false ?_).symm
      rintro (x | x | x | x | x | x | x)
      · exact x he
      · exact x h1
      · exact x h2
      · exact x h3
      · exact x h4
      · exact x h5
      · exact x e
    · have e2 : (whereS D (readC (heldS P)).1.num != zone) = true := by simp [e]
      exact e2.trans (decide_eq_true (.inr (.inr (.inr (.inr (.inr (.inr e))))))).symm
  rintro s h7 ⟨rfl, n7⟩ _
  have n07 := n06.trans n7
  have b17 := b16.new n7
  refine br_of (fun hb => ?_) fun hb => ?_
  · have hb := of_decide_eq_true hb
    refine call_of (wrap_b _ zone 10 h7) ?_
    rintro v h8 ⟨l, hl, n8⟩
    refine ⟨v, rfl, put_taken (K := ReadSP D zone h) (c := ck0) (da := none) (dc := 0) (b17.new n8) rfl fun h9 h' b9 o9 t9 => ?_⟩
    unfold ReadSP
    rw [hrs, if_pos hb]
    refine ⟨none, 0, v, l, rfl, errs_taken t9 (errs (b17.new n8) (by decide) o9 (hl.low n07.size)), OwnH.nil _ _ _ _, ⟨by rw [t9.size, o9.size]; exact (n07.trans n8).size, fun q hq => ?_⟩⟩
    rw [Tk_low t9 hq, o9.same q (by omega), (n07.trans n8).same q hq]
  · have hb := of_decide_eq_false hb
    refine ldChk (b6.new n7) (put_taken (K := ReadSP D zone h) (c := (readC (heldS P)).1) (da := da) (dc := dc) b17 rfl fun h9 h' b9 o9 t9 => ?_)
    unfold ReadSP
    rw [hrs, if_neg hb]
    have hs4 := n04.size
    have hl1 := b14.lt
    refine ⟨da, dc, .nilIface, [], rfl, rfl, ?_, ⟨by rw [t9.size, o9.size]; exact n07.size, fun q hq => ?_⟩⟩
    · exact OwnH.low (base := h4.size) (((((o5.grow n6).grow n7).keep fun g _ hg _ _ => o9.same g (by omega))).keep fun _ _ _ hg _ => Tk_blk t9 hg) hs4
    · rw [Tk_low t9 hq, o9.same q (by omega), n07.same q hq]
def NewestP (D : Dev) (h : Heap) (v : Value) (h' : Heap) : Prop := ∃ da dc e l, v = .tuple #[chkV (newestS D).1 da dc, e] ∧ ErrB h.size h' e l (newestS D).2 ∧ OwnH h' h.size 35 1 da (newestS D).1.dir.length dc ((newestS D).1.dir.map (Value.int .u32)) ∧ New h h'
theorem newest_ok {k b : Nat} {t : Tags} {D : Dev} (o : DevOk D) (h : Heap) (r : PRep k t h b D) :
    CallsH Tryz.prog 20 [ptr b] h (NewestP D h) := by
  refine fun_ok Geo.hm' Tryz.func20 (by kernel_rfl) (F20_eq _ _ h) ?_
  unfold F20
  have hzs := o.zones
  refine new_of fun h1 b1 n1 s1 => ?_
  rw [zeroK] at b1
  have r1 := r.new n1
  refine cut_q (ts := []) (fun _ h' => h' = h1 ∧ ¬ ((D.zs.length : Int) < 2 ∧ D.down = false)) ?_ ?_
  rotate_left
  · intro K hK
    refine call_of (zones_ok h1 r1) ?_
    rintro v h' ⟨rfl, hh⟩; subst h'
    refine ⟨(D.zs.length : Int), rfl, br_of (fun h2 => call_of (down_ok h1 r1) ?_) fun h2 => hK () _ ⟨rfl, fun h => (of_decide_eq_false h2) h.1⟩⟩
    have h2 : (D.zs.length : Int) < 2 := of_decide_eq_true h2
    rintro v h' ⟨rfl, hh⟩; subst h'
    refine ⟨D.down, rfl, br_of (fun h3 => ?_) fun h3 => hK () _ ⟨rfl, fun h => by rw [h.2] at h3; cases h3⟩⟩
    have h3 : D.down = false := not_t h3
    refine put_out (K := NewestP D h) (c := ck0) (da := none) (dc := 0) b1 rfl fun h4 o4 => ?_
    unfold NewestP
    have e : newestS D = (ck0, 1) := by unfold newestS; rw [if_pos ⟨h2, h3⟩]
    rw [e]
    exact ⟨none, 0, errV 1, [], rfl, rfl, OwnH.nil _ _ _ _, o4.upd.new n1 (Nat.le_refl _)⟩
  rintro _ h' ⟨hh, hno⟩ _; subst h'
  refine call_of (zones_ok h1 r1) ?_
  rintro v h' ⟨rfl, hh⟩; subst h'
  have ew : IntKind.wrap .i64 ((D.zs.length : Int) - 2) = (D.zs.length : Int) - 2 := wr64 (by omega) (by omega)
  have ew1 : IntKind.wrap .i64 ((D.zs.length : Int) - 1) = (D.zs.length : Int) - 1 := wr64 (by omega) (by omega)
  refine ⟨(D.zs.length : Int), rfl, ?_⟩
  rw [ew]
  have ns : newestS D = if (readS D ((D.zs.length : Int) - 2)).2 = 7 ∨ ((readS D ((D.zs.length : Int) - 2)).2 ≠ 0 ∧ (readS D ((D.zs.length : Int) - 1)).2 ≠ 0) then (ck0, (readS D ((D.zs.length : Int) - 2)).2)
      else if (readS D ((D.zs.length : Int) - 2)).2 ≠ 0 ∨ ((readS D ((D.zs.length : Int) - 1)).2 = 0 ∧ behindB (readS D ((D.zs.length : Int) - 1)).1.num (readS D ((D.zs.length : Int) - 2)).1.num = true) then ((readS D ((D.zs.length : Int) - 1)).1, 0)
      else ((readS D ((D.zs.length : Int) - 2)).1, 0) := by
    conv => lhs; unfold newestS
    rw [if_neg hno]
  have rd1 := sread_ok o ((D.zs.length : Int) - 2) h1 r1
  have rd2 := fun h r => sread_ok (t := t) (k := k) (b := b) o ((D.zs.length : Int) - 1) h r
  unfold ReadSP at rd1 rd2
  generalize readS D ((D.zs.length : Int) - 2) = A at *
  generalize readS D ((D.zs.length : Int) - 1) = B at *
  refine call_of rd1 ?_
  rintro v h2 ⟨da, dc, ea, l1, rfl, he2, o2, n2⟩
  refine ⟨(chkC A.1 da dc, ea), rfl, new_stL (by rw [zeroK]; rfl) fun h3 b3 n3 s3 => ?_⟩
  have b3 : Blk h3 h2.size (chkA A.1 da dc) 40 := b3
  have n13 := n2.trans n3
  have r3 := r1.new n13
  refine call_of (zones_ok h3 r3) ?_
  rintro v h' ⟨rfl, hh⟩; subst h'
  refine ⟨(D.zs.length : Int), rfl, ?_⟩
  rw [ew1]
  refine call_of (rd2 h3 r3) ?_
  rintro v h4 ⟨db, dd, eb, l2, rfl, he4, o4, n4⟩
  refine ⟨(chkC B.1 db dd, eb), rfl, new_stL (by rw [zeroK]; rfl) fun h5 b5 n5 s5 => ?_⟩
  have b5 : Blk h5 h4.size (chkA B.1 db dd) 40 := b5
  have n35 := n4.trans n5
  have n05 := (n1.trans n13).trans n35
  have ea5b := (he2.new n3).new n35
  have eb5b := he4.new n5
  have ea5 := ea5b.c
  have eb5 := eb5b.c
  have b35 := b3.new n35
  have b15 := (b1.new n13).new n35
  have oA := ((o2.grow n3).grow n35).low n1.size
  have oB := ((o4.grow n5)).low (n1.trans n13).size
  refine cut_q (ts := [.sc .bool]) (fun s h' => s = decide (A.2 = 7 ∨ (A.2 ≠ 0 ∧ B.2 ≠ 0)) ∧ h' = h5) ?_ ?_
  rotate_left
  · intro K hK
    refine call_of (Is_ok ea l1 A.2 7 h5 (by decide) ea5) ?_
    rintro v h' ⟨rfl, hh⟩; subst h'
    refine ⟨A.2 == 7, rfl, br_of (fun h => ?_) fun h => ⟨ea5.ok.1, ?_⟩⟩
    · have h : A.2 = 7 := by simpa using h
      exact hK _ _ ⟨(decide_eq_true (Or.inl h)).symm, rfl⟩
    · have h : ¬ A.2 = 7 := by simpa using h
      rw [ea5.ok.2]
      refine br_of (fun h0 => ⟨eb5.ok.1, hK _ _ ⟨?_, rfl⟩⟩) fun h0 => hK _ _ ⟨?_, rfl⟩
      · have h0 : A.2 ≠ 0 := of_decide_eq_false (not_t h0)
        rw [eb5.ok.2]
        by_cases e : B.2 = 0
        · have e2 : (!decide (B.2 = 0)) = false := by simp [e]
          exact e2.trans (decide_eq_false (by rintro (x | x); exact h x; exact x.2 e)).symm
        · have e2 : (!decide (B.2 = 0)) = true := by simp [e]
          exact e2.trans (decide_eq_true (Or.inr ⟨h0, e⟩)).symm
      · have h0 : A.2 = 0 := of_decide_eq_true (not_f h0)
        exact (decide_eq_false (by rintro (x | x); exact h x; exact x.1 h0)).symm
  rintro s h' ⟨rfl, hh⟩ _; subst h'
  refine br_of (fun hc => ?_) fun hc => ?_
  · have hc := of_decide_eq_true hc
    refine put_out (K := NewestP D h) (c := ck0) (da := none) (dc := 0) b15 rfl fun h6 o6 => ?_
    unfold NewestP
    rw [ns, if_pos hc]
    exact ⟨none, 0, ea, l1, rfl, errs b15 (by decide) o6 (ea5b.low n1.size), OwnH.nil _ _ _ _, o6.upd.new n05 (Nat.le_refl _)⟩
  have hc := of_decide_eq_false hc
  rw [if_neg hc] at ns
  have hl5 := b15.lt
  refine cut_q (ts := [.sc .bool]) (fun s h' => s = decide (A.2 ≠ 0 ∨ (B.2 = 0 ∧ behindB B.1.num A.1.num = true)) ∧ h' = h5) ?_ ?_
  rotate_left
  · intro K hK
    refine ⟨ea5.ok.1, ?_⟩
    rw [ea5.ok.2]
    refine br_of (fun h0 => hK _ _ ⟨?_, rfl⟩) fun h0 => ⟨eb5.ok.1, ?_⟩
    · have h0 : A.2 ≠ 0 := of_decide_eq_false (not_t h0)
      exact (decide_eq_true (Or.inl h0)).symm
    have h0 : A.2 = 0 := of_decide_eq_true (not_f h0)
    rw [eb5.ok.2]
    refine br_of (fun h1 => ?_) fun h1 => hK _ _ ⟨?_, rfl⟩
    · have h1 : B.2 = 0 := of_decide_eq_true h1
      refine ld_of (c := .int .u32) B.1.num (by rw [add_mk, cellH_blk b5]; rfl) (ld_of (c := .int .u32) A.1.num (by rw [add_mk, cellH_blk b35]; rfl) (call_of (behind_ok B.1.num A.1.num h5) ?_))
      rintro v h' ⟨rfl, hh⟩; subst h'
      refine ⟨behindB B.1.num A.1.num, rfl, hK _ _ ⟨?_, rfl⟩⟩
      cases hb : behindB B.1.num A.1.num with
      | true => exact (decide_eq_true (Or.inr ⟨h1, rfl⟩)).symm
      | false => exact (decide_eq_false (by rintro (x | x); exact x h0; cases x.2)).symm
    · have h1 : ¬ B.2 = 0 := of_decide_eq_false h1
      exact (decide_eq_false (by rintro (x | x); exact x h0; exact h1 x.1)).symm
  rintro s h' ⟨rfl, hh⟩ _; subst h'
  refine br_of (fun hd => ?_) fun hd => ?_
  · have hd := of_decide_eq_true hd
    refine ldChk b5 (put_out (K := NewestP D h) (c := B.1) (da := db) (dc := dd) b15 rfl fun h6 o6 => ?_)
    unfold NewestP
    rw [ns, if_pos hd]
    exact ⟨db, dd, .nilIface, [], rfl, rfl, OwnH.low (base := h3.size) ((o4.grow n5).keep fun g _ hg _ _ => o6.same g (by have := n1.size; have := n13.size; omega)) (n1.trans n13).size, o6.upd.new n05 (Nat.le_refl _)⟩
  · have hd := of_decide_eq_false hd
    refine ldChk b35 (put_out (K := NewestP D h) (c := A.1) (da := da) (dc := dc) b15 rfl fun h6 o6 => ?_)
    unfold NewestP
    rw [ns, if_neg hd]
    exact ⟨da, dc, .nilIface, [], rfl, rfl, OwnH.low (base := h1.size) (((o2.grow n3).grow n35).keep fun g _ hg _ _ => o6.same g (by omega)) n1.size, o6.upd.new n05 (Nat.le_refl _)⟩
end Go.Proofs.YthimfpkkdhpceaaGreatDoor.Slt
/-
  Checkpoints in the last two zones: plain laws of what is written.
-/
namespace Go.Proofs.YthimfpkkdhpceaaGreatDoor.Slt
open Go.Pl Go.Proofs.YthimfpkkdhpceaaGreatDoor.Byts Go.Proofs.YthimfpkkdhpceaaGreatDoor.Four Go.Proofs.YthimfpkkdhpceaaGreatDoor.Adl Go.Proofs.YthimfpkkdhpceaaGreatDoor.Head Go.Proofs.YthimfpkkdhpceaaGreatDoor.HdP Go.Proofs.YthimfpkkdhpceaaGreatDoor.Geo Go.Proofs.YthimfpkkdhpceaaGreatDoor.Zns Go.Proofs.YthimfpkkdhpceaaGreatDoor.Ck
def pagesC (ses num : Int) : Nat → List (List Int) → List (List Int)
  | _, [] => []
  | i, b :: l => pg ses num i b :: pagesC ses num (i + 1) l
theorem pagesC_len (ses num : Int) : ∀ (l : List (List Int)) (i : Nat), (pagesC ses num i l).length = l.length
  | [], _ => rfl
  | b :: l, i => by unfold pagesC; rw [List.length_cons, List.length_cons, pagesC_len ses num l (i + 1)]
theorem hd_ok {ses num : Int} (hs : U32 ses) (hn : U32 num) {i : Nat} (hi : i < 4294967296) : HdOk (5, ses, (i : Int), num) := ⟨⟨(by first | omega | (dsimp only; omega) | (simp only []; omega)), (by first | omega | (dsimp only; omega) | (simp only []; omega))⟩, hs, ⟨(by first | omega | (dsimp only; omega) | (simp only []; omega)), (by first | omega | (dsimp only; omega) | (simp only []; omega))⟩, hn⟩
theorem pg_read {ses num : Int} (hs : U32 ses) (hn : U32 num) {i : Nat} (hi : i < 4294967296) {b : List Int} (hb : b.length = 16) : readF (pg ses num i b) = ((5, ses, (i : Int), num), b, 0) := read_page (hd_ok hs hn hi) hb (by simp [isR])
theorem col_all {ses num : Int} (hs : U32 ses) (hn : U32 num) : ∀ (l : List (List Int)) (i : Nat), i + l.length < 4294967296 → (∀ b ∈ l, b.length = 16) → colS ses num i (pagesC ses num i l) = l
  | [], _, _, _ => rfl
  | b :: l, i, hi, hb => by
    simp only [List.length_cons] at hi
    unfold pagesC colS
    rw [pg_read hs hn (by omega) (hb b (by simp)), if_pos ⟨rfl, rfl⟩, col_all hs hn l (i + 1) (by omega) fun c hc => hb c (by simp [hc])]
theorem held_all {ses num : Int} (hs : U32 ses) (hn : U32 num) {l : List (List Int)} (hl : l.length < 4294967296) (hb : ∀ b ∈ l, b.length = 16) (h0 : l ≠ []) : heldS (pagesC ses num 0 l) = l ∧ firstS (pagesC ses num 0 l) = (5, ses, 0, num) := by
  have hf : firstS (pagesC ses num 0 l) = (5, ses, 0, num) := by
    cases l with
    | nil => exact (h0 rfl).elim
    | cons b l =>
      show (readF (pg ses num 0 b)).1 = _
      rw [pg_read hs hn (i := 0) (by omega) (hb b (by simp))]; rfl
  refine ⟨?_, hf⟩
  unfold heldS
  rw [hf]
  exact col_all hs hn l 0 (by omega) hb
/-- A device whose power stays. -/
structure Runs (D : Dev) : Prop where
  ok : DevOk D
  down : D.down = false
  fuse : D.fuse = -1
theorem doing_runs {D : Dev} (h1 : D.down = false) (h2 : D.fuse = -1) : ∃ o, D.doing 0 = ({ D with ops := o }, 0) := by
  refine ⟨IntKind.wrap .i64 (D.ops + 1), ?_⟩
  unfold Dev.doing
  rw [if_neg (by rw [h1]; simp), if_neg (by simp), if_neg (by rw [h2]; decide), h2]
  obtain ⟨zs, P, fuse, ops, down⟩ := D
  simp only [] at h2
  subst h2
  rfl
theorem app_one {D : Dev} {zone : Nat} {b : List Int} (h1 : D.down = false) (h2 : D.fuse = -1) (hz : zone < D.zs.length) (hf : D.zs[zone].fin = false) (hl : D.zs[zone].pages.length < D.P) (hb : b.length = 33) :
    ∃ o, D.append (zone : Int) b = ({ D with zs := D.zs.set zone { D.zs[zone] with pages := D.zs[zone].pages ++ [b] }, ops := o }, (D.point (zone : Int) : Int), 0) := by
  have he : D.appendE (zone : Int) b = 0 := by
    unfold Dev.appendE
    rw [if_neg (by rw [there_of hz]; rintro (h | h); cases h; exact h hb), if_neg]
    unfold Dev.state
    rw [at_of hz]
    split
    · decide
    split
    · rename_i h; rcases h with h | h
      · rw [hf] at h; cases h
      · omega
    · decide
  obtain ⟨o, ho⟩ := doing_runs h1 h2
  refine ⟨o, ?_⟩
  unfold Dev.append
  rw [he, ho]
  simp only []
  rw [if_neg (by simp), at_of hz]
  simp only [Dev.setZ, Int.toNat_natCast]
theorem app_all (zone : Nat) {ses num : Int} : ∀ (l : List (List Int)) (D : Dev) (i : Nat) (hz : zone < D.zs.length), D.down = false → D.fuse = -1 → D.zs[zone].fin = false → D.zs[zone].pages.length + l.length ≤ D.P → (∀ b ∈ l, b.length = 16) →
    ∃ o, appS (zone : Int) ses num D i l = ({ D with zs := D.zs.set zone { D.zs[zone] with pages := D.zs[zone].pages ++ pagesC ses num i l }, ops := o }, 0)
  | [], D, i, hz, _, _, _, _, _ => by
    refine ⟨D.ops, ?_⟩
    unfold appS pagesC
    rw [List.append_nil]
    have : D.zs.set zone { D.zs[zone] with pages := D.zs[zone].pages } = D.zs := List.set_getElem_self hz
    rw [this]
  | b :: l, D, i, hz, h1, h2, hf, hl, hb => by
    simp only [List.length_cons] at hl
    obtain ⟨o, ho⟩ := app_one h1 h2 hz hf (by omega) (show (pg ses num i b).length = 33 from pageL_len _ (hb b (by simp)))
    obtain ⟨o2, ho2⟩ := app_all zone (ses := ses) (num := num) l { D with zs := D.zs.set zone { D.zs[zone] with pages := D.zs[zone].pages ++ [pg ses num i b] }, ops := o } (i + 1) (by simpa using hz) h1 h2 (by simpa using hf) (by simp; omega) fun c hc => hb c (by simp [hc])
    refine ⟨o2, ?_⟩
    unfold appS
    rw [ho, if_neg (by simp), ho2]
    simp only [List.getElem_set_self, List.set_set, List.append_assoc, List.singleton_append]
    rfl
theorem boundFrom_tab' (z p : Int) : ∀ n, (boundFrom z p n + 3) / 4 ≤ p ∨ boundFrom z p n = 0
  | 0 => .inr rfl
  | n + 1 => by
    have ih := boundFrom_tab' z p n
    simp only [boundFrom]
    split
    · rename_i h
      unfold okB at h
      rw [Bool.and_eq_true] at h
      exact .inl (of_decide_eq_true h.1)
    · exact ih
theorem right_tab' {z p b : Int} (h : rightB z p b = true) : (b + 3) / 4 ≤ p := by
  obtain ⟨hz, hp, h1, _⟩ := right_facts h
  unfold rightB at h
  rw [Bool.and_eq_true] at h
  have h2 := of_decide_eq_true h.1
  unfold boundF at h2
  rw [if_pos ⟨hz, hp⟩] at h2
  rcases boundFrom_tab' z p 64 with h3 | h3
  · omega
  · omega
/-- What is written where it fits. -/
theorem write_all {D : Dev} (r : Runs D) {c : Chk} (k : ChkOk c) (hr : rightC c = true) (hz : c.z = (D.zs.length : Int)) (hp : c.p = (D.P : Int)) :
    ∃ D', writeS D c = (D', 0) ∧ Runs D' ∧ D'.zs.length = D.zs.length ∧ D'.P = D.P ∧ (D'.at_ (whereS D c.num)).pages = pagesC c.ses c.num 0 (blocksC c).1 ∧ ∀ z : Int, z ≠ whereS D c.num → (D'.at_ z).pages = (D.at_ z).pages := by
  have hzs := r.ok.zones
  obtain ⟨_, hz1, hp1, hb1, hd1⟩ := right_c hr
  have hmod : 0 ≤ c.num % 2 ∧ c.num % 2 < 2 := by omega
  obtain ⟨w, hw, hwl⟩ : ∃ w : Nat, whereS D c.num = (w : Int) ∧ w < D.zs.length := by
    unfold whereS
    exact ⟨((D.zs.length : Int) - 2 + c.num % 2).toNat, by omega, by omega⟩
  have eb : blocksC c = (chunks (manyN c.b) (bytesC c), 0) := by unfold blocksC; rw [if_neg (by rw [hr]; simp)]
  have hlen := bytes_len hr
  have h16 := chunks_each hlen
  have hcl := chunks_len (manyN c.b) (bytesC c)
  have hmany : (manyN c.b : Int) ≤ c.p := by
    have h0 : rightB c.z c.p c.b = true := (right_c hr).1
    have := right_tab' h0
    unfold manyN lenN tabN; omega
  obtain ⟨o1, ho1⟩ := doing_runs r.down r.fuse
  have hreset : D.reset (w : Int) = ({ D with zs := D.zs.set w Zn.bare, ops := o1 }, 0) := by
    unfold Dev.reset
    have : D.resetE (w : Int) = 0 := by unfold Dev.resetE; rw [if_neg (by rw [there_of hwl]; simp)]
    rw [this, ho1]
    simp only []
    rw [if_neg (by simp)]
    simp only [Dev.setZ, Int.toNat_natCast]
  obtain ⟨o2, ho2⟩ := app_all w (ses := c.ses) (num := c.num) (chunks (manyN c.b) (bytesC c)) { D with zs := D.zs.set w Zn.bare, ops := o1 } 0 (by simpa using hwl) r.down r.fuse (by simp [Zn.bare]) (by simp [Zn.bare, hcl]; omega) h16
  have hg : ({ D with zs := D.zs.set w Zn.bare, ops := o1 } : Dev).zs[w]'(by simpa using hwl) = Zn.bare := by simp
  rw [hg] at ho2
  simp only [List.set_set] at ho2
  obtain ⟨o3, ho3⟩ := doing_runs (D := { D with zs := D.zs.set w { Zn.bare with pages := Zn.bare.pages ++ pagesC c.ses c.num 0 (chunks (manyN c.b) (bytesC c)) }, ops := o2 }) r.down r.fuse
  have hfl : ({ D with zs := D.zs.set w { Zn.bare with pages := Zn.bare.pages ++ pagesC c.ses c.num 0 (chunks (manyN c.b) (bytesC c)) }, ops := o2 } : Dev).flush = (({ D with zs := D.zs.set w { Zn.bare with pages := Zn.bare.pages ++ pagesC c.ses c.num 0 (chunks (manyN c.b) (bytesC c)) }, ops := o3 } : Dev).settle, 0) := by
    unfold Dev.flush
    rw [ho3]
    simp only []
    rw [if_neg (by simp)]
  have hwr : writeS D c = (({ D with zs := D.zs.set w { Zn.bare with pages := Zn.bare.pages ++ pagesC c.ses c.num 0 (chunks (manyN c.b) (bytesC c)) }, ops := o3 } : Dev).settle, 0) := by
    unfold writeS
    rw [hw, eb]
    simp only []
    rw [if_neg (by rintro (h | h | h); exact h rfl; exact h hz; exact h hp), hreset]
    simp only []
    rw [if_neg (by simp), ho2]
    simp only []
    rw [if_neg (by simp)]
    exact hfl
  have hok := DevOk.write r.ok k
  rw [hwr] at hok
  refine ⟨_, hwr, ⟨hok, r.down, r.fuse⟩, by simp [Dev.settle], rfl, ?_, fun z hne => ?_⟩
  · rw [hw, eb, at_of (by simpa [Dev.settle] using hwl)]
    simp [Dev.settle, Zn.settle, Zn.bare]
  · rw [hw] at hne
    by_cases ht : D.there z = true
    · obtain ⟨y, rfl, hy⟩ := there_nat ht
      rw [at_of (by simpa [Dev.settle] using hy), at_of hy]
      have hne : w ≠ y := fun e => hne (by rw [e])
      simp [Dev.settle, Zn.settle, List.getElem_set_ne hne]
    · have ht : D.there z = false := by simpa using ht
      have ht2 : (({ D with zs := D.zs.set w { Zn.bare with pages := Zn.bare.pages ++ pagesC c.ses c.num 0 (chunks (manyN c.b) (bytesC c)) }, ops := o3 } : Dev).settle).there z = false := by
        unfold Dev.there at ht ⊢
        simpa [Dev.settle] using ht
      rw [at_none ht, at_none ht2]
/-- What was written is read. -/
theorem read_new {D D' : Dev} (r' : D'.down = false) (hl : D'.zs.length = D.zs.length) (hP : D'.P = D.P) {c : Chk} (k : ChkOk c) (hr : rightC c = true) (hz : c.z = (D.zs.length : Int)) (hp : c.p = (D.P : Int)) (hpg : (D'.at_ (whereS D c.num)).pages = pagesC c.ses c.num 0 (blocksC c).1) :
    readS D' (whereS D c.num) = (c, 0) := by
  obtain ⟨_, hz1, _, _, _⟩ := right_c hr
  have hw : whereS D' c.num = whereS D c.num := by unfold whereS; rw [hl]
  have eb : blocksC c = (chunks (manyN c.b) (bytesC c), 0) := by unfold blocksC; rw [if_neg (by rw [hr]; simp)]
  have hlen := bytes_len hr
  have h16 := chunks_each hlen
  have hcl := chunks_len (manyN c.b) (bytesC c)
  have hm : 2 ≤ manyN c.b ∧ manyN c.b ≤ 100 := by obtain ⟨_, _, _, hb, _⟩ := right_c hr; unfold manyN lenN tabN; omega
  obtain ⟨hh, hf⟩ := held_all k.ses k.num (l := (blocksC c).1) (by rw [eb]; simp only []; omega) (by rw [eb]; exact h16) (by rw [eb]; intro e; simp only [] at e; rw [e] at hcl; simp at hcl; omega)
  unfold readS
  rw [if_neg (by rw [r']; simp), if_neg (by unfold whereS; omega), hpg]
  have hb : ¬ badS D' (whereS D c.num) (pagesC c.ses c.num 0 (blocksC c).1) := by
    unfold badS
    rw [hh, hf, back_c k hr, pagesC_len, hl, hP]
    rintro (h | h | h | h | h | h | h)
    · exact h rfl
    · exact h rfl
    · exact h rfl
    · exact h rfl
    · exact h hz
    · exact h hp
    · exact h hw
  rw [if_neg hb, hh, back_c k hr]
theorem bad_same {D D' : Dev} (hl : D'.zs.length = D.zs.length) (hP : D'.P = D.P) (z : Int) (P : List (List Int)) : badS D' z P ↔ badS D z P := by
  unfold badS whereS
  rw [hl, hP]
/-- What a slot holds depends on its pages alone. -/
theorem read_same {D D' : Dev} (hd : D'.down = D.down) (hl : D'.zs.length = D.zs.length) (hP : D'.P = D.P) {z : Int} (hz : (D'.at_ z).pages = (D.at_ z).pages) : readS D' z = readS D z := by
  unfold readS
  rw [hd, hl, hz]
  simp only [bad_same hl hP]
theorem read_none {D : Dev} (hd : D.down = false) {z : Int} (hz : (D.at_ z).pages = []) (h2 : ¬ ((D.zs.length : Int) < 2 ∨ z < (D.zs.length : Int) - 2 ∨ z ≥ (D.zs.length : Int))) : readS D z = (ck0, 10) := by
  unfold readS
  rw [if_neg (by rw [hd]; simp), if_neg h2, hz, if_pos]
  exact .inl (by decide)
end Go.Proofs.YthimfpkkdhpceaaGreatDoor.Slt
/-
  The formulas of the common functions of the laws of slot. Each formula checked by the kernel. Printed by a program of this repo.
-/
namespace Go.Proofs.YthimfpkkdhpceaaGreatDoor.W
open Go.Pl

-- function 6
set_option maxRecDepth 100000 in
def F6  (K : Value → Heap → Prop) (h0 : Heap) : Prop := (
  callT Tryz.prog 8 [.int .i64 11, .int .i64 4] [.sc .ptr, .sc .any] (fun (r1 : (Option Addr) × Value) h2 =>
  br (Option.isNone r1.1)
  (K (.bool false) h2)
  (newW (.cells #[.int .u32 4, .int .u32 0] 35) (fun a3 h4 =>
  newW (.cells (zeroC Tryz.prog 40) 40) (fun a5 h6 =>
  stLW a5 [.int .u32 4, .int .u32 2, .int .u32 3, .int .i64 11, .int .i64 4, .int .i64 6, .slice (some a3) 2 2] (fun h7 =>
  callT Tryz.prog 20 [.pointer r1.1] [.agg [.int .u32, .int .u32, .int .u32, .int .i64, .int .i64, .int .i64, .slice], .sc .any] (fun (r8 : (Int × Int × Int × Int × Int × Int × (Option Addr × Nat × Nat)) × Value) h9 =>
  newW (.cells (zeroC Tryz.prog 40) 40) (fun a10 h11 =>
  stLW a10 [.int .u32 r8.1.1, .int .u32 r8.1.2.1, .int .u32 r8.1.2.2.1, .int .i64 r8.1.2.2.2.1, .int .i64 r8.1.2.2.2.2.1, .int .i64 r8.1.2.2.2.2.2.1, .slice r8.1.2.2.2.2.2.2.1 r8.1.2.2.2.2.2.2.2.1 r8.1.2.2.2.2.2.2.2.2] (fun h12 =>
  ldAggW [.int .u32, .int .u32, .int .u32, .int .i64, .int .i64, .int .i64, .slice] a5 (fun (x13 : Int × Int × Int × Int × Int × Int × (Option Addr × Nat × Nat)) =>
  callT Tryz.prog 13 [.pointer r1.1, .agg #[.int .u32 x13.1, .int .u32 x13.2.1, .int .u32 x13.2.2.1, .int .i64 x13.2.2.2.1, .int .i64 x13.2.2.2.2.1, .int .i64 x13.2.2.2.2.2.1, .slice x13.2.2.2.2.2.2.1 x13.2.2.2.2.2.2.2.1 x13.2.2.2.2.2.2.2.2]] [.sc .any] (fun (r14 : Value) h15 =>
  callT Tryz.prog 20 [.pointer r1.1] [.agg [.int .u32, .int .u32, .int .u32, .int .i64, .int .i64, .int .i64, .slice], .sc .any] (fun (r16 : (Int × Int × Int × Int × Int × Int × (Option Addr × Nat × Nat)) × Value) h17 =>
  newW (.cells (zeroC Tryz.prog 40) 40) (fun a18 h19 =>
  stLW a18 [.int .u32 r16.1.1, .int .u32 r16.1.2.1, .int .u32 r16.1.2.2.1, .int .i64 r16.1.2.2.2.1, .int .i64 r16.1.2.2.2.2.1, .int .i64 r16.1.2.2.2.2.2.1, .slice r16.1.2.2.2.2.2.2.1 r16.1.2.2.2.2.2.2.2.1 r16.1.2.2.2.2.2.2.2.2] (fun h20 =>
  callT Tryz.prog 17 [.pointer r1.1, .int .i64 9] [.agg [.int .u32, .int .u32, .int .u32, .int .i64, .int .i64, .int .i64, .slice], .sc .any] (fun (r21 : (Int × Int × Int × Int × Int × Int × (Option Addr × Nat × Nat)) × Value) h22 =>
  newW (.cells (zeroC Tryz.prog 40) 40) (fun a23 h24 =>
  stLW a23 [.int .u32 r21.1.1, .int .u32 r21.1.2.1, .int .u32 r21.1.2.2.1, .int .i64 r21.1.2.2.2.1, .int .i64 r21.1.2.2.2.2.1, .int .i64 r21.1.2.2.2.2.2.1, .slice r21.1.2.2.2.2.2.2.1 r21.1.2.2.2.2.2.2.2.1 r21.1.2.2.2.2.2.2.2.2] (fun h25 =>
  stW (Addr.add a5 0) (.int .u32 5) (fun h26 =>
  ldAggW [.int .u32, .int .u32, .int .u32, .int .i64, .int .i64, .int .i64, .slice] a5 (fun (x27 : Int × Int × Int × Int × Int × Int × (Option Addr × Nat × Nat)) =>
  callT Tryz.prog 13 [.pointer r1.1, .agg #[.int .u32 x27.1, .int .u32 x27.2.1, .int .u32 x27.2.2.1, .int .i64 x27.2.2.2.1, .int .i64 x27.2.2.2.2.1, .int .i64 x27.2.2.2.2.2.1, .slice x27.2.2.2.2.2.2.1 x27.2.2.2.2.2.2.2.1 x27.2.2.2.2.2.2.2.2]] [.sc .any] (fun (_r28 : Value) h29 =>
  callT Tryz.prog 20 [.pointer r1.1] [.agg [.int .u32, .int .u32, .int .u32, .int .i64, .int .i64, .int .i64, .slice], .sc .any] (fun (r30 : (Int × Int × Int × Int × Int × Int × (Option Addr × Nat × Nat)) × Value) h31 =>
  newW (.cells (zeroC Tryz.prog 40) 40) (fun a32 h33 =>
  stLW a32 [.int .u32 r30.1.1, .int .u32 r30.1.2.1, .int .u32 r30.1.2.2.1, .int .i64 r30.1.2.2.2.1, .int .i64 r30.1.2.2.2.2.1, .int .i64 r30.1.2.2.2.2.2.1, .slice r30.1.2.2.2.2.2.2.1 r30.1.2.2.2.2.2.2.2.1 r30.1.2.2.2.2.2.2.2.2] (fun h34 =>
  callT Tryz.prog 17 [.pointer r1.1, .int .i64 8] [.agg [.int .u32, .int .u32, .int .u32, .int .i64, .int .i64, .int .i64, .slice], .sc .any] (fun (r35 : (Int × Int × Int × Int × Int × Int × (Option Addr × Nat × Nat)) × Value) h36 =>
  newW (.cells (zeroC Tryz.prog 40) 40) (fun a37 h38 =>
  stLW a37 [.int .u32 r35.1.1, .int .u32 r35.1.2.1, .int .u32 r35.1.2.2.1, .int .i64 r35.1.2.2.2.1, .int .i64 r35.1.2.2.2.2.1, .int .i64 r35.1.2.2.2.2.2.1, .slice r35.1.2.2.2.2.2.2.1 r35.1.2.2.2.2.2.2.2.1 r35.1.2.2.2.2.2.2.2.2] (fun h39 =>
  callT Tryz.prog 12 [r8.2] [.sc (.int .i64)] (fun (r40 : Int) h41 =>
  br (r40 == (10 : Int))
  (ifW r14 (br (isNilV r14)
  (ifW r16.2 (br (isNilV r16.2)
  (ldW (.int .u32) (Addr.add a18 0) (fun (x42 : Int) =>
  br (x42 == (4 : Int))
  (ifW r21.2 (br (isNilV r21.2)
  (ldAggW [.int .u32, .int .u32, .int .u32, .int .i64, .int .i64, .int .i64, .slice] a18 (fun (x43 : Int × Int × Int × Int × Int × Int × (Option Addr × Nat × Nat)) =>
  ldAggW [.int .u32, .int .u32, .int .u32, .int .i64, .int .i64, .int .i64, .slice] a23 (fun (x44 : Int × Int × Int × Int × Int × Int × (Option Addr × Nat × Nat)) =>
  callT Tryz.prog 27 [.agg #[.int .u32 x43.1, .int .u32 x43.2.1, .int .u32 x43.2.2.1, .int .i64 x43.2.2.2.1, .int .i64 x43.2.2.2.2.1, .int .i64 x43.2.2.2.2.2.1, .slice x43.2.2.2.2.2.2.1 x43.2.2.2.2.2.2.2.1 x43.2.2.2.2.2.2.2.2], .agg #[.int .u32 x44.1, .int .u32 x44.2.1, .int .u32 x44.2.2.1, .int .i64 x44.2.2.2.1, .int .i64 x44.2.2.2.2.1, .int .i64 x44.2.2.2.2.2.1, .slice x44.2.2.2.2.2.2.1 x44.2.2.2.2.2.2.2.1 x44.2.2.2.2.2.2.2.2]] [.sc .bool] (fun (r45 : Bool) h46 =>
  br r45
  (callT Tryz.prog 22 [.pointer r1.1, .int .u32 5] [.sc (.int .i64)] (fun (r47 : Int) h48 =>
  br (r47 == (10 : Int))
  (ifW r30.2 (br (isNilV r30.2)
  (ldAggW [.int .u32, .int .u32, .int .u32, .int .i64, .int .i64, .int .i64, .slice] a32 (fun (x49 : Int × Int × Int × Int × Int × Int × (Option Addr × Nat × Nat)) =>
  ldAggW [.int .u32, .int .u32, .int .u32, .int .i64, .int .i64, .int .i64, .slice] a5 (fun (x50 : Int × Int × Int × Int × Int × Int × (Option Addr × Nat × Nat)) =>
  callT Tryz.prog 27 [.agg #[.int .u32 x49.1, .int .u32 x49.2.1, .int .u32 x49.2.2.1, .int .i64 x49.2.2.2.1, .int .i64 x49.2.2.2.2.1, .int .i64 x49.2.2.2.2.2.1, .slice x49.2.2.2.2.2.2.1 x49.2.2.2.2.2.2.2.1 x49.2.2.2.2.2.2.2.2], .agg #[.int .u32 x50.1, .int .u32 x50.2.1, .int .u32 x50.2.2.1, .int .i64 x50.2.2.2.1, .int .i64 x50.2.2.2.2.1, .int .i64 x50.2.2.2.2.2.1, .slice x50.2.2.2.2.2.2.1 x50.2.2.2.2.2.2.2.1 x50.2.2.2.2.2.2.2.2]] [.sc .bool] (fun (r51 : Bool) h52 =>
  br r51
  (callT Tryz.prog 12 [r35.2] [.sc (.int .i64)] (fun (r53 : Int) h54 =>
  K (.bool (r53 == (1 : Int))) h54) h52)
  (K (.bool false) h52)) h48) h48) h48)
  (K (.bool false) h48)))
  (K (.bool false) h48)) h46)
  (K (.bool false) h46)) h41) h41) h41)
  (K (.bool false) h41)))
  (K (.bool false) h41)) h41)
  (K (.bool false) h41)))
  (K (.bool false) h41)))
  (K (.bool false) h41)) h39) h38) h36) h34) h33) h31) h29) h26) h26) h25) h24) h22) h20) h19) h17) h15) h12) h12) h11) h9) h7) h6) h4) h2)) h0)
set_option maxRecDepth 100000 in
theorem F6_eq  (K : Value → Heap → Prop) (h0 : Heap) : funWE Tryz.prog 6 (.seq (.leaf) (.seq (.leaf) (.seq (.seq (.leaf) (.cond (.seq (.leaf) (.leaf)) (.leaf))) (.seq (.leaf) (.seq (.leaf) (.seq (.leaf) (.seq (.leaf) (.seq (.leaf) (.seq (.leaf) (.seq (.leaf) (.seq (.leaf) (.seq (.leaf) (.seq (.leaf) (.leaf)))))))))))))) [] K h0 = F6  K h0 := by kernel_rfl

-- function 7
set_option maxRecDepth 100000 in
def F7 (l_0 : Option Addr) (l_0l _l_0c : Nat) (K : Value → Heap → Prop) (h0 : Heap) : Prop := (
  br (decide ((((l_0l : Nat) : Int)) > (30 : Int)))
  (K (.bool true) h0)
  (loopT [.sc (.int .i64)] (fun (s2 : Int) _ (K1 : Int → Heap → Prop) h3 =>
  br (decide (s2 < (((l_0l : Nat) : Int))))
  (ptrW l_0 (fun a4 =>
  idxW s2 l_0l true (ldAggW [.int .u32, .int .u32, .int .u32, .int .i64, .int .i64, .int .i64, .slice] (Addr.add a4 (Int.toNat s2 * 7)) (fun (x5 : Int × Int × Int × Int × Int × Int × (Option Addr × Nat × Nat)) =>
  newW (.cells (zeroC Tryz.prog 40) 40) (fun a6 h7 =>
  stLW a6 [.int .u32 x5.1, .int .u32 x5.2.1, .int .u32 x5.2.2.1, .int .i64 x5.2.2.2.1, .int .i64 x5.2.2.2.2.1, .int .i64 x5.2.2.2.2.2.1, .slice x5.2.2.2.2.2.2.1 x5.2.2.2.2.2.2.2.1 x5.2.2.2.2.2.2.2.2] (fun h8 =>
  ldW .slice (Addr.add a6 6) (fun (x9 : Option Addr × Nat × Nat) =>
  br (decide ((((x9.2.1 : Nat) : Int)) > (100 : Int)))
  (K (.bool true) h8)
  (K1 (IntKind.wrap .i64 (s2 + (1 : Int))) h8)) h8) h7) h3) h3)))
  (K (.bool false) h3)) (0 : Int) h0))
set_option maxRecDepth 100000 in
theorem F7_eq (l_0 : Option Addr) (l_0l l_0c : Nat) (K : Value → Heap → Prop) (h0 : Heap) : funWE Tryz.prog 7 (.seq (.leaf) (.seq (.seq (.leaf) (.cond (.seq (.leaf) (.leaf)) (.leaf))) (.seq (.seq (.leaf) (.block (.loop [(10, .sc (.int .i64))] (.seq (.leaf) (.seq (.cond (.leaf) (.leaf)) (.seq (.block (.seq (.leaf) (.seq (.leaf) (.cond (.seq (.leaf) (.leaf)) (.leaf))))) (.leaf))))))) (.seq (.leaf) (.leaf))))) [.slice l_0 l_0l l_0c] K h0 = F7 l_0 l_0l l_0c K h0 := by kernel_rfl

end Go.Proofs.YthimfpkkdhpceaaGreatDoor.W
/-
  What the laws of layer 15 (slot) come to: what came in; the law's own functions.
-/
namespace Go.Proofs.YthimfpkkdhpceaaGreatDoor.Slt
open Go.Pl Go.Proofs.YthimfpkkdhpceaaGreatDoor.W Go.Proofs.YthimfpkkdhpceaaGreatDoor.Byts Go.Proofs.YthimfpkkdhpceaaGreatDoor.Four Go.Proofs.YthimfpkkdhpceaaGreatDoor.Adl Go.Proofs.YthimfpkkdhpceaaGreatDoor.As Go.Proofs.YthimfpkkdhpceaaGreatDoor.Err Go.Proofs.YthimfpkkdhpceaaGreatDoor.Head Go.Proofs.YthimfpkkdhpceaaGreatDoor.HdP Go.Proofs.YthimfpkkdhpceaaGreatDoor.Geo Go.Proofs.YthimfpkkdhpceaaGreatDoor.Zns Go.Proofs.YthimfpkkdhpceaaGreatDoor.ZnsP Go.Proofs.YthimfpkkdhpceaaGreatDoor.Ck Go.Proofs.YthimfpkkdhpceaaGreatDoor.Rng
/- WHAT CAME IN. -/
abbrev CkSh : Sh := .pair (.int .u32) (.pair (.int .u32) (.pair (.int .u32) (.pair (.pair (.int .i64) (.pair (.int .i64) (.int .i64))) (.slice (.int .u32)))))
def ckX (x : CkSh.T) : Chk := ⟨x.1, x.2.1, x.2.2.1, x.2.2.2.1.1, x.2.2.2.1.2.1, x.2.2.2.1.2.2, x.2.2.2.2⟩
theorem ck_in {h : Heap} {es : List Value} {x : CkSh.T} (r : Reads h CkSh es x) : ∃ da dc, es = (chkA (ckX x) da dc).toList ∧ Ar .u32 h da (ckX x).dir ∧ ChkOk (ckX x) := by
  obtain ⟨c1, d1, rfl, ⟨rfl, w1⟩, c2, d2, rfl, ⟨rfl, w2⟩, c3, d3, rfl, ⟨rfl, w3⟩, c4, d4, rfl, ⟨e1, e2, rfl, ⟨rfl, w4⟩, e3, e4, rfl, ⟨rfl, w5⟩, ⟨rfl, w6⟩⟩, ⟨a, c, rfl, hs⟩⟩ := r
  have r5 : ReadsV h (.slice (.int .u32)) (.slice a (List.length (α := (Sh.int .u32).T) x.2.2.2.2) c) x.2.2.2.2 := ⟨_, rfl, a, c, rfl, hs⟩
  obtain ⟨a', c', e, _, _, _, ar, hw⟩ := Ar.reads r5
  injection e with e1 e2 e3
  subst e1; subst e3
  exact ⟨a, c, rfl, ar, u32_wf w1, u32_wf w2, u32_wf w3, fun y hy => u32_wf (hw y hy)⟩
theorem ck_at {h0 h : Heap} {a : Option Addr} {l : List CkSh.T} (r : SlAt h0 CkSh a l) (n : New h0 h) {i : Nat} (hi : i < l.length) : ∃ da dc, Ar .u32 h0 da (ckX l[i]).dir ∧ ChkOk (ckX l[i]) ∧
    ∀ {m : Nat} {F : ChkC → Prop}, i < m → F (chkC (ckX l[i]) da dc) → ptrW a (fun p => idxW (i : Int) m true (ldAggW ChkY (Addr.add p (Int.toNat (i : Int) * 7)) F h)) := by
  obtain ⟨b, o, es, rfl, hb, hel, hc, re⟩ := r i _ (List.getElem?_eq_getElem hi)
  obtain ⟨da, dc, rfl, ar, ok⟩ := ck_in re
  refine ⟨da, dc, ar, ok, fun hm hF => ?_⟩
  exact agg_at (k := 7) (chkC (ckX l[i]) da dc) (es := (chkA (ckX l[i]) da dc).toList) (fun j hj => by rw [cellH_same (n.same b hb)]; exact hc j hj) rfl rfl hm hF
def largeC (l : List CkSh.T) : Bool := decide (30 < l.length) || l.any fun x => decide (100 < (ckX x).dir.length)
theorem largeC_no {l : List CkSh.T} (h : largeC l = false) : l.length ≤ 30 ∧ ∀ x ∈ l, (ckX x).dir.length ≤ 100 := by
  unfold largeC at h
  rw [Bool.or_eq_false_iff] at h
  refine ⟨by have := of_decide_eq_false h.1; omega, fun b hb => ?_⟩
  have := List.any_eq_false.1 h.2 b hb
  simp at this; exact this
theorem slarge_ok (a : Option Addr) (c : Nat) (l : List CkSh.T) (h : Heap) (r : SlAt h CkSh a l) :
    CallsH Tryz.prog 7 [.slice a l.length c] h fun v h' => v = .bool (largeC l) ∧ New h h' := by
  refine fun_ok Geo.hm' Tryz.func7 (by kernel_rfl) (F7_eq _ _ _ _ h) ?_
  unfold F7
  refine br_of (fun hg => ?_) (fun hg => ?_)
  · have hg : (l.length : Int) > 30 := of_decide_eq_true hg
    refine ⟨?_, New.refl h⟩
    unfold largeC; rw [decide_eq_true (show 30 < l.length by omega)]; rfl
  have hg : ¬ (l.length : Int) > 30 := of_decide_eq_false hg
  refine ⟨fun (s : Int) h' => New h h' ∧ ∃ i : Nat, s = i ∧ i ≤ l.length ∧ ∀ b ∈ l.take i, (ckX b).dir.length ≤ 100, fun (s : Int) _ => (l.length - s).toNat, ⟨New.refl h, 0, rfl, by omega, by simp⟩, ?_⟩
  rintro s j h1 ⟨n1, i, rfl, hi, hno⟩
  refine br_of (fun hlt => ?_) (fun hlt => ?_)
  · have hlt : (i : Int) < (l.length : Int) := of_decide_eq_true hlt
    have hiL : i < l.length := by omega
    obtain ⟨da, dc, _, _, ld⟩ := ck_at r n1 hiL
    refine ld hiL (new_stL (by rw [zeroK]; rfl) fun h2 b2 n2 s2 => ?_)
    have b2 : Blk h2 h1.size (chkA (ckX l[i]) da dc) 40 := b2
    refine ld_of (c := .slice) (da, (ckX l[i]).dir.length, dc) (by rw [add_mk, cellH_blk b2]; rfl) (br_of (fun hb => ⟨?_, n1.trans n2⟩) fun hb => ?_)
    · have hb : ((ckX l[i]).dir.length : Int) > 100 := of_decide_eq_true hb
      unfold largeC
      have : l.any (fun x => decide (100 < (ckX x).dir.length)) = true := List.any_eq_true.2 ⟨_, List.getElem_mem hiL, decide_eq_true (by omega)⟩
      rw [this, Bool.or_true]
    · have hb : ¬ ((ckX l[i]).dir.length : Int) > 100 := of_decide_eq_false hb
      have ez : IntKind.wrap .i64 ((i : Int) + 1) = ((i + 1 : Nat) : Int) := (by first | (rw [wr64 (by omega) (by omega)]; omega) | (simp only [IntKind.wrap_i64]; omega))
      rw [ez]
      refine ⟨⟨n1.trans n2, i + 1, rfl, hiL, fun b hb' => ?_⟩, (by first | omega | (dsimp only; omega) | (simp only []; omega))⟩
      rw [← List.take_append_getElem hiL] at hb'
      rcases List.mem_append.1 hb' with hb' | hb'
      · exact hno b hb'
      · rw [List.mem_singleton.1 hb']; omega
  · have hlt : ¬ (i : Int) < (l.length : Int) := of_decide_eq_false hlt
    have : i = l.length := by omega
    subst this
    rw [List.take_length] at hno
    refine ⟨?_, n1⟩
    unfold largeC
    rw [decide_eq_false (by omega)]
    have : l.any (fun x => decide (100 < (ckX x).dir.length)) = false := List.any_eq_false.2 fun b hb => by have := hno b hb; simp; omega
    rw [this]; rfl
/- WHAT STAYS. -/
theorem own_im {k : IntKind} {t : Tags} {h : Heap} {n c : Nat} {e : TypeId} {a : Option Addr} {xs : List Int} (o : OwnH h n e 1 a xs.length c (xs.map (Value.int k))) : Im k (lay t n (0, 0)) h a xs := ⟨Ar.own o, fun _ g hg => by rw [lay_ge (o.blk_ge g hg).1]⟩
theorem fr_new {t t' : Tags} {k : Nat} {h0 h h' : Heap} (f : Fr (fun p => p.1 ≠ k) t h t' h') (n : New h0 h) (ht : ∀ g, g < h0.size → (t g).1 ≠ k) : New h0 h' := f.new n ht
/-- Nothing that was there is turned: the blocks below a base belong to nobody. -/
structure Bz (h0 : Heap) (t : Tags) (h : Heap) : Prop where
  new : New h0 h
  tag : ∀ b, b < h0.size → (t b).1 = 0
theorem Bz.fr {S : Nat × Nat → Prop} {h0 h h' : Heap} {t t' : Tags} (b : Bz h0 t h) (f : Fr S t h t' h') (hS : ∀ p : Nat × Nat, p.1 = 0 → S p) : Bz h0 t' h' :=
  ⟨f.new b.new fun c hc => hS _ (b.tag c hc), fun c hc => by rw [f.tags c (Nat.lt_of_lt_of_le hc b.new.size)]; exact b.tag c hc⟩
theorem Bz.lay {h0 h h' : Heap} {t : Tags} (b : Bz h0 t h) (n : New h h') (p : Nat × Nat) : Bz h0 (lay t h.size p) h' := b.fr (S := fun _ => True) (Fr.lay n p) fun _ _ => trivial
theorem Bz.im {k : IntKind} {h0 h : Heap} {t : Tags} (b : Bz h0 t h) {a : Option Addr} {xs : List Int} (r : Ar k h0 a xs) : Im k t h a xs := ⟨r.new b.new, fun hx g hg => b.tag g (r.lt hx g hg)⟩
/- AWAKE. -/
def c4 : Chk := ⟨4, 2, 3, 11, 4, 6, [4, 0]⟩
def c5 : Chk := ⟨5, 2, 3, 11, 4, 6, [4, 0]⟩
theorem u32d {x : Int} (h : decide (0 ≤ x ∧ x < 4294967296) = true) : U32 x := by
  have := of_decide_eq_true h
  exact this
theorem dir_ok : ∀ x ∈ ([4, 0] : List Int), U32 x := fun x hx => by
  simp only [List.mem_cons, List.not_mem_nil, or_false] at hx
  rcases hx with rfl | rfl <;> exact u32d rfl
theorem c4_ok : ChkOk c4 := ⟨u32d rfl, u32d rfl, u32d rfl, dir_ok⟩
theorem c5_ok : ChkOk c5 := ⟨u32d rfl, u32d rfl, u32d rfl, dir_ok⟩
theorem c4_right : rightC c4 = true := by decide
theorem c5_right : rightC c5 = true := by decide
theorem empty_runs {n p : Nat} (h1 : 1 ≤ n ∧ n ≤ 24) (h2 : 1 ≤ p ∧ p ≤ 16) : Runs (Dev.empty n p) := ⟨DevOk.empty h1 h2, rfl, rfl⟩
theorem empty_pages (n p : Nat) (z : Int) : ((Dev.empty n p).at_ z).pages = [] := by
  cases h : (Dev.empty n p).there z with
  | false => rw [at_none h]; rfl
  | true =>
    obtain ⟨y, rfl, hy⟩ := there_nat h
    rw [at_of hy]
    simp [Dev.empty, Zn.bare]
theorem awake_plain : newestS (Dev.empty 11 4) = (ck0, 10) ∧ ∃ D1 D2, writeS (Dev.empty 11 4) c4 = (D1, 0) ∧ Runs D1 ∧ newestS D1 = (c4, 0) ∧ readS D1 9 = (c4, 0) ∧ writeS D1 c5 = (D2, 0) ∧ Runs D2 ∧ newestS D2 = (c5, 0) ∧ readS D2 8 = (ck0, 1) ∧ whereS D2 5 = 10 := by
  have r0 := empty_runs (n := 11) (p := 4) (by decide) (by decide)
  have hl0 : (Dev.empty 11 4).zs.length = 11 := rfl
  have e9 := read_none r0.down (empty_pages 11 4 9) (by rw [hl0]; decide)
  have e10 := read_none r0.down (empty_pages 11 4 10) (by rw [hl0]; decide)
  obtain ⟨D1, hw1, r1, hl1, hP1, hp1, ho1⟩ := write_all r0 c4_ok c4_right rfl rfl
  have w1 : whereS (Dev.empty 11 4) c4.num = 9 := by decide
  have rd1 := read_new r1.down hl1 hP1 c4_ok c4_right rfl rfl hp1
  rw [w1] at rd1 ho1
  have rd10 := (read_same (D := Dev.empty 11 4) (D' := D1) (by rw [r1.down]; rfl) hl1 hP1 (ho1 10 (by decide))).trans e10
  obtain ⟨D2, hw2, r2, hl2, hP2, hp2, ho2⟩ := write_all r1 c5_ok c5_right (by rw [hl1]; rfl) (by rw [hP1]; rfl)
  have w2 : whereS D1 c5.num = 10 := by unfold whereS; rw [hl1]; decide
  have rd2 := read_new r2.down hl2 hP2 c5_ok c5_right (by rw [hl1]; rfl) (by rw [hP1]; rfl) hp2
  rw [w2] at rd2 ho2
  have rd29 := (read_same (D := D1) (D' := D2) (by rw [r2.down, r1.down]) hl2 hP2 (ho2 9 (by decide))).trans rd1
  have hL1 : D1.zs.length = 11 := hl1
  have hL2 : D2.zs.length = 11 := hl2.trans hl1
  refine ⟨?_, D1, D2, hw1, r1, ?_, rd1, hw2, r2, ?_, ?_, ?_⟩
  · unfold newestS
    rw [hl0]
    have a1 : ((11 : Nat) : Int) - 2 = 9 := by decide
    have a2 : ((11 : Nat) : Int) - 1 = 10 := by decide
    rw [a1, a2, e9, e10, if_neg (by decide), if_pos (.inr ⟨by decide, by decide⟩)]
  · unfold newestS
    rw [hL1]
    have a1 : ((11 : Nat) : Int) - 2 = 9 := by decide
    have a2 : ((11 : Nat) : Int) - 1 = 10 := by decide
    rw [a1, a2, rd1, rd10, if_neg (by rintro ⟨h, _⟩; exact absurd h (by decide)), if_neg (by rintro (h | h); exact absurd h (by decide); exact h.1 rfl), if_neg (by rintro (h | h); exact h rfl; exact absurd h.1 (by decide))]
  · unfold newestS
    rw [hL2]
    have a1 : ((11 : Nat) : Int) - 2 = 9 := by decide
    have a2 : ((11 : Nat) : Int) - 1 = 10 := by decide
    rw [a1, a2, rd2, rd29, if_neg (by rintro ⟨h, _⟩; exact absurd h (by decide)), if_neg (by rintro (h | h); exact absurd h (by decide); exact h.1 rfl), if_pos (.inr ⟨rfl, by decide⟩)]
  · unfold readS
    rw [if_neg (by rw [r2.down]; simp), hL2, if_pos (by decide)]
  · unfold whereS; rw [hL2]; decide
theorem errT_nil {t : Tags} {h : Heap} {v : Value} {l : List (ByteArray × Int)} (e : ErrT t h v l 0) : v = .nilIface := by
  cases l with
  | nil => exact e
  | cons p l => obtain ⟨_, _⟩ := p; exact (e.1 rfl).elim
theorem errB_nil {n : Nat} {h : Heap} {v : Value} {l : List (ByteArray × Int)} (e : ErrB n h v l 0) : v = .nilIface := by
  cases l with
  | nil => exact e
  | cons p l => obtain ⟨_, _⟩ := p; exact (e.1 rfl).elim
theorem awake_ok (h : Heap) (hg : Laid h) : CallsH Tryz.prog 6 [] h fun v h' => v = .bool true ∧ New h h' := by
  refine fun_ok Geo.hm' Tryz.func6 (by kernel_rfl) (F6_eq _ h) ?_
  unfold F6
  obtain ⟨p0, D1, D2, hw1, rn1, p1, q1, hw2, rn2, p2, q2, w2⟩ := awake_plain
  have rn0 := empty_runs (n := 11) (p := 4) (by decide) (by decide)
  refine call_of (ZnsP.new_ok 1 (by decide) (fun _ => (0, 0)) 11 4 h (by decide) (by decide)) ?_
  rintro v h1 ⟨b, rfl, n1, _, t1, ht1, r1⟩
  have r1 : PRep 1 t1 h1 b (Dev.empty 11 4) := r1
  generalize Dev.empty 11 4 = D0 at *
  refine ⟨(some ⟨b, 0, none⟩, errV 0), rfl, br_f rfl (new_of fun h2 b2 n2 s2 => new_stL (by rw [zeroK]; rfl) fun h3 b3 n3 s3 => ?_)⟩
  have b3 : Blk h3 h2.size (chkA c4 (some ⟨h1.size, 0, none⟩) 2) 40 := b3
  have n13 := n2.trans n3
  have z1 : Bz h t1 h1 := ⟨n1, fun g hg => by rw [ht1 g hg]⟩
  have z3 := z1.lay n13 (3, 0)
  have r3 : PRep 1 (lay t1 h1.size (3, 0)) h3 b D0 := r1.fr (S := fun _ => True) (Fr.lay n13 _) (fun _ _ => trivial) fun _ => trivial
  have tg3 : ∀ g, h1.size ≤ g → (lay t1 h1.size (3, 0) g) = (3, 0) := fun g hg => lay_ge hg
  have b23 : Blk h3 h1.size #[.int .u32 4, .int .u32 0] 35 := b2.new n3
  generalize lay t1 h1.size (3, 0) = T3 at *
  refine call_of (newest_ok rn0.ok h3 r3) ?_
  rintro v h4 ⟨da, dc, e8, l8, rfl, er8, o8, n4⟩
  rw [p0] at er8 o8 ⊢
  refine ⟨(chkC ck0 da dc, e8), rfl, new_stL (by rw [zeroK]; rfl) fun h5 b5 n5 s5 => ?_⟩
  have n35 := n4.trans n5
  have r5 := PRep.lay r3 n35
  have z5 := z3.lay n35 (0, 0)
  have er5 : ErrT (lay T3 h3.size (0, 0)) h5 e8 l8 10 := (er8.tag rfl).new n5
  have b35 := b3.new n35
  have b25 := b23.new n35
  have tg5 : ∀ g, h1.size ≤ g → g < h3.size → (lay T3 h3.size (0, 0) g) = (3, 0) := fun g hg hl => by rw [lay_lt hl]; exact tg3 g hg
  generalize lay T3 h3.size (0, 0) = T5 at *
  have ar5 : Ar .u32 h5 (some ⟨h1.size, 0, none⟩) c4.dir := Ar.blk (xs := [4, 0]) b25
  have hl23 : h2.size < h3.size := b3.lt
  have hl12 : h1.size < h2.size := by omega
  refine ldChk b35 (call_of (write_ok (k := 1) (by decide) rn0.ok c4 c4_ok _ 2 h5 r5 ar5) ?_)
  rintro v h6 ⟨l14, t6, er14, r6, f6⟩
  rw [hw1] at er14 r6
  refine ⟨v, rfl, ?_⟩
  obtain rfl := errT_nil er14
  have z6 := z5.fr f6 fun p hp => by rw [hp]; decide
  have er6 := er5.fr f6 fun p hp => by rw [hp]; decide
  have b36 := f6.blk b35 (by rw [tg5 _ (by omega) hl23]; decide)
  have b26 := f6.blk b25 (by rw [tg5 _ (Nat.le_refl _) (by omega)]; decide)
  have hs35 := n35.size
  have tg6 : ∀ g, h1.size ≤ g → g < h3.size → t6 g = (3, 0) := fun g hg hl => by rw [f6.tags g (by omega)]; exact tg5 g hg hl
  refine call_of (newest_ok rn1.ok h6 r6) ?_
  rintro v h7 ⟨da7, dc7, e16, l16, rfl, er16, o16, n7⟩
  rw [p1] at er16 o16 ⊢
  obtain rfl := errB_nil er16
  refine ⟨(chkC c4 da7 dc7, .nilIface), rfl, new_stL (by rw [zeroK]; rfl) fun h8 b8 n8 s8 => ?_⟩
  have b8 : Blk h8 h7.size (chkA c4 da7 dc7) 40 := b8
  have n68 := n7.trans n8
  refine call_of (sread_ok rn1.ok 9 h8 (r6.new n68)) ?_
  rintro v h9 ⟨da9, dc9, e21, l21, rfl, er21, o21, n9⟩
  rw [q1] at er21 o21 ⊢
  obtain rfl := errB_nil er21
  refine ⟨(chkC c4 da9 dc9, .nilIface), rfl, new_stL (by rw [zeroK]; rfl) fun h10 b10 n10 s10 => ?_⟩
  have b10 : Blk h10 h9.size (chkA c4 da9 dc9) 40 := b10
  have n810 := n9.trans n10
  have n610 := n68.trans n810
  have r10 := PRep.lay r6 n610
  have z10 := z6.lay n610 (0, 0)
  have er10 : ErrT (lay t6 h6.size (0, 0)) h10 e8 l8 10 := er6.fr (S := fun _ => True) (Fr.lay n610 _) fun _ _ => trivial
  have im16 : Im .u32 (lay t6 h6.size (0, 0)) h10 da7 c4.dir := own_im ((o16.grow n8).grow n810)
  have im21 : Im .u32 (lay t6 h6.size (0, 0)) h10 da9 c4.dir := own_im ((o21.grow n10).low n68.size)
  have tg10 : ∀ g, h1.size ≤ g → g < h3.size → (lay t6 h6.size (0, 0) g) = (3, 0) := fun g hg hl => by rw [lay_lt (by have := f6.size; omega)]; exact tg6 g hg hl
  have tz10 : ∀ g, h6.size ≤ g → (lay t6 h6.size (0, 0) g) = (0, 0) := fun g hg => lay_ge hg
  generalize lay t6 h6.size (0, 0) = T10 at *
  have b310 := b36.new n610
  have b210 := b26.new n610
  have b810 := b8.new n810
  have hs6 := f6.size
  have hs7 := n7.size
  have hs9 := n68.size
  have hs89 := n9.size
  rw [add_mk]
  refine st_blk b310 (show 0 + 0 < 7 by omega) fun h11 b11 o11 => ?_
  have b11 : Blk h11 h2.size (chkA c5 (some ⟨h1.size, 0, none⟩) 2) 40 := b11
  have fo : Fr (fun p => p.1 ≠ 3) T10 h10 T10 h11 := Fr.upd o11.upd fun hn => hn (by rw [tg10 _ (by omega) hl23])
  have hS3 : ∀ p : Nat × Nat, p.1 = 0 → p.1 ≠ 3 := fun p hp => by rw [hp]; decide
  have r11 := r10.fr fo hS3 fun j => (by decide : (1 : Nat) ≠ 3)
  have z11 := z10.fr fo hS3
  have er11 := er10.fr fo hS3
  have im16' := im16.fr fo hS3
  have im21' := im21.fr fo hS3
  have b211 := b210.only o11 (by omega)
  have b811 := b810.only o11 (by omega)
  have b1011 := b10.only o11 (by omega)
  have ar11 : Ar .u32 h11 (some ⟨h1.size, 0, none⟩) c5.dir := Ar.blk (xs := [4, 0]) b211
  refine ldChk b11 (call_of (write_ok (k := 1) (by decide) rn1.ok c5 c5_ok _ 2 h11 r11 ar11) ?_)
  rintro v h12 ⟨l28, t12, er28, r12, f12⟩
  rw [hw2] at er28 r12
  refine ⟨v, rfl, ?_⟩
  have hS1 : ∀ p : Nat × Nat, p.1 = 0 → p.1 ≠ 1 := fun p hp => by rw [hp]; decide
  have z12 := z11.fr f12 hS1
  have er12 := er11.fr f12 hS1
  have im16'' := im16'.fr f12 hS1
  have im21'' := im21'.fr f12 hS1
  have b312 := f12.blk b11 (by rw [tg10 _ (by omega) hl23]; decide)
  have b212 := f12.blk b211 (by rw [tg10 _ (Nat.le_refl _) (by omega)]; decide)
  have b812 := f12.blk b811 (by rw [tz10 _ hs7]; decide)
  have b1012 := f12.blk b1011 (by rw [tz10 _ (by omega)]; decide)
  refine call_of (newest_ok rn2.ok h12 r12) ?_
  rintro v h13 ⟨da13, dc13, e30, l30, rfl, er30, o30, n13'⟩
  rw [p2] at er30 o30 ⊢
  obtain rfl := errB_nil er30
  refine ⟨(chkC c5 da13 dc13, .nilIface), rfl, new_stL (by rw [zeroK]; rfl) fun h14 b14 n14 s14 => ?_⟩
  have b14 : Blk h14 h13.size (chkA c5 da13 dc13) 40 := b14
  have n1214 := n13'.trans n14
  refine call_of (sread_ok rn2.ok 8 h14 (r12.new n1214)) ?_
  rintro v h15 ⟨da15, dc15, e35, l35, rfl, er35, o35, n15⟩
  rw [q2] at er35 o35 ⊢
  refine ⟨(chkC ck0 da15 dc15, e35), rfl, new_stL (by rw [zeroK]; rfl) fun h16 b16 n16 s16 => ?_⟩
  have n1416 := n15.trans n16
  have n1216 := n1214.trans n1416
  have z16 := z12.lay n1216 (0, 0)
  have lg : ∀ hx, New h16 hx → Laid hx := fun hx nx => hg.new (z16.new.trans nx)
  refine call_of (Err.code_ok e8 l8 10 h16 (lg _ (New.refl _)) (er12.new n1216).c) ?_
  rintro v h17 ⟨rfl, n17⟩
  have n1217 := n1216.trans n17
  refine ⟨(10 : Int), rfl, br_t rfl ⟨.inl rfl, br_t rfl ⟨.inl rfl, br_t rfl (ld_of (c := .int .u32) (4 : Int) (by rw [add_mk, cellH_blk (b812.new n1217)]; rfl) (br_t rfl ⟨.inl rfl, br_t rfl (ldChk (b812.new n1217) (ldChk (b1012.new n1217) (call_of (csame_ok c4 c4 da7 da9 dc7 dc9 h17 (im16''.new n1217).ar (im21''.new n1217).ar (by decide)) ?_)))⟩))⟩⟩⟩
  rintro v h18 ⟨rfl, n18⟩
  have n1218 := n1217.trans n18
  refine ⟨sameC c4 c4, rfl, br_t ((sameC_iff _ _).2 rfl) (call_of (where_ok rn2.ok 5 (u32d rfl) h18 (r12.new n1218)) ?_)⟩
  rintro v h' ⟨rfl, hh⟩; subst h'
  rw [w2]
  have n1418 := (n1416.trans n17).trans n18
  refine ⟨(10 : Int), rfl, br_t rfl ⟨.inl rfl, br_t rfl (ldChk (b14.new n1418) (ldChk (b312.new n1218) (call_of (csame_ok c5 c5 da13 _ dc13 2 h18 (Ar.own ((o30.grow n14).grow n1418)) ((Ar.blk (xs := [4, 0]) b212).new n1218) (by decide)) ?_)))⟩⟩
  rintro v h19 ⟨rfl, n19⟩
  have n1619 := (n17.trans n18).trans n19
  refine ⟨sameC c5 c5, rfl, br_t ((sameC_iff _ _).2 rfl) (call_of (Err.code_ok e35 l35 1 h19 (lg _ n1619) ((er35.new n16).new n1619).c) ?_)⟩
  rintro v h20 ⟨rfl, n20⟩
  exact ⟨(1 : Int), rfl, rfl, (z16.new.trans n1619).trans n20⟩
end Go.Proofs.YthimfpkkdhpceaaGreatDoor.Slt
/-
  The formulas of the reference of geo. Each formula checked by the kernel. Printed by a program of this repo.
-/
namespace Go.Proofs.YthimfpkkdhpceaaGreatDoor.W
open Go.Pl

-- function 60
set_option maxRecDepth 100000 in
def F60 (zones_0 : Int) (pages_1 : Int) (K : Value → Heap → Prop) (h0 : Heap) : Prop := (
  cutT [] (fun (K1 : Unit → Heap → Prop) h2 =>
  br (decide (zones_0 < (11 : Int)))
  (K (.int .i64 0) h2)
  (br (decide (zones_0 > (24 : Int)))
  (K (.int .i64 0) h2)
  (br (decide (pages_1 < (4 : Int)))
  (K (.int .i64 0) h2)
  (br (decide (pages_1 > (16 : Int)))
  (K (.int .i64 0) h2)
  (K1 () h2))))) (fun (_s3 : Unit) _ h4 =>
  loopT [.sc (.int .i64), .sc (.int .i64)] (fun (s6 : Int × Int) _ (K5 : (Int × Int) → Heap → Prop) h7 =>
  br (decide (s6.2 ≤ (64 : Int)))
  (callT Tryz.prog 105 [.int .i64 s6.2] [.sc (.int .i64)] (fun (r8 : Int) h9 =>
  br (decide (r8 ≤ pages_1))
  (callT Tryz.prog 105 [.int .i64 s6.2] [.sc (.int .i64)] (fun (r10 : Int) h11 =>
  br (decide ((IntKind.wrap .i64 ((2 : Int) * (IntKind.wrap .i64 (s6.2 + r10)))) ≤ (IntKind.wrap .i64 ((IntKind.wrap .i64 (zones_0 - (7 : Int))) * pages_1))))
  (K5 (s6.2, (IntKind.wrap .i64 (s6.2 + (1 : Int)))) h11)
  (K5 (s6.1, (IntKind.wrap .i64 (s6.2 + (1 : Int)))) h11)) h9)
  (K5 (s6.1, (IntKind.wrap .i64 (s6.2 + (1 : Int)))) h9)) h7)
  (K (.int .i64 s6.1) h7)) ((0 : Int), (1 : Int)) h4) h0)
set_option maxRecDepth 100000 in
theorem F60_eq (zones_0 : Int) (pages_1 : Int) (K : Value → Heap → Prop) (h0 : Heap) : funWE Tryz.prog 60 (.seq (.leaf) (.seq (.leaf) (.cut [] (.seq (.leaf) (.cond (.seq (.leaf) (.leaf)) (.leaf))) (.seq (.seq (.leaf) (.block (.loop [(5, .sc (.int .i64)), (6, .sc (.int .i64))] (.seq (.seq (.leaf) (.cond (.leaf) (.leaf))) (.seq (.block (.seq (.leaf) (.cond (.leaf) (.leaf)))) (.leaf)))))) (.seq (.leaf) (.leaf)))))) [.int .i64 zones_0, .int .i64 pages_1] K h0 = F60 zones_0 pages_1 K h0 := by kernel_rfl

-- function 24
set_option maxRecDepth 100000 in
def F24 (g_0_0 : Int) (g_0_1 : Int) (g_0_2 : Int) (K : Value → Heap → Prop) (h0 : Heap) : Prop := (
  newW (.cells #[.int .i64 g_0_0, .int .i64 g_0_1, .int .i64 g_0_2] 44) (fun a1 h2 =>
  ldW (.int .i64) (Addr.add a1 2) (fun (x3 : Int) =>
  br (decide (x3 ≥ (1 : Int)))
  (ldW (.int .i64) (Addr.add a1 2) (fun (x4 : Int) =>
  ldW (.int .i64) (Addr.add a1 0) (fun (x5 : Int) =>
  ldW (.int .i64) (Addr.add a1 1) (fun (x6 : Int) =>
  callT Tryz.prog 60 [.int .i64 x5, .int .i64 x6] [.sc (.int .i64)] (fun (r7 : Int) h8 =>
  (cellH h8 (Addr.add a1 2) = some (.int .i64 x4) ∧ K (.bool (decide (x4 ≤ r7))) h8)) h2) h2) h2) h2)
  (K (.bool false) h2)) h2) h0)
set_option maxRecDepth 100000 in
theorem F24_eq (g_0_0 : Int) (g_0_1 : Int) (g_0_2 : Int) (K : Value → Heap → Prop) (h0 : Heap) : funWE Tryz.prog 24 (.seq (.leaf) (.seq (.draw (odp [0, 1, 2, 3, 4, 5, 6, 7, 8, 9, 10, 11, 12, 13] .nil) [200005]) (.leaf))) [.agg #[.int .i64 g_0_0, .int .i64 g_0_1, .int .i64 g_0_2]] K h0 = F24 g_0_0 g_0_1 g_0_2 K h0 := by kernel_rfl

-- function 105
set_option maxRecDepth 100000 in
def F105 (blocks_0 : Int) (K : Value → Heap → Prop) (h0 : Heap) : Prop := (
  br (decide ((Int.tmod blocks_0 (4 : Int)) > (0 : Int)))
  (K (.int .i64 (IntKind.wrap .i64 ((IntKind.wrap .i64 (Int.tdiv blocks_0 (4 : Int))) + (1 : Int)))) h0)
  (K (.int .i64 (IntKind.wrap .i64 (Int.tdiv blocks_0 (4 : Int)))) h0))
set_option maxRecDepth 100000 in
theorem F105_eq (blocks_0 : Int) (K : Value → Heap → Prop) (h0 : Heap) : funWE Tryz.prog 105 (.seq (.leaf) (.seq (.leaf) (.seq (.seq (.leaf) (.cond (.leaf) (.leaf))) (.seq (.leaf) (.leaf))))) [.int .i64 blocks_0] K h0 = F105 blocks_0 K h0 := by kernel_rfl

end Go.Proofs.YthimfpkkdhpceaaGreatDoor.W
/-
  The reference of geo: its contracts.
-/
namespace Go.Proofs.YthimfpkkdhpceaaGreatDoor.R2
open Go.Pl Go.Proofs.YthimfpkkdhpceaaGreatDoor.W Go.Proofs.YthimfpkkdhpceaaGreatDoor.Geo
theorem tab_ok (n : Int) (h : Heap) (h0 : 0 ≤ n) (h1 : n ≤ 1000000) : CallsH Tryz.prog 105 [.int .i64 n] h fun v h' => v = .int .i64 ((n + 3) / 4) ∧ h' = h := by
  refine fun_ok hm' Tryz.func105 (by kernel_rfl) (F105_eq _ _ h) ?_
  unfold F105
  rw [Int.tdiv_eq_ediv_of_nonneg h0, Int.tmod_eq_emod_of_nonneg h0, wr64 (n := n / 4) (by omega) (by omega), wr64 (by omega) (by omega)]
  refine br_of (fun hb => ⟨?_, rfl⟩) (fun hb => ⟨?_, rfl⟩)
  · have := of_decide_eq_true hb
    rw [show n / 4 + 1 = (n + 3) / 4 by omega]
  · have := of_decide_eq_false hb
    rw [show n / 4 = (n + 3) / 4 by omega]
theorem rbound_ok (z p : Int) (h : Heap) : CallsH Tryz.prog 60 [.int .i64 z, .int .i64 p] h fun v h' => v = .int .i64 (boundF z p) ∧ h' = h := by
  refine fun_ok hm' Tryz.func60 (by kernel_rfl) (F60_eq _ _ _ h) ?_
  unfold F60
  have no : ¬ ((11 ≤ z ∧ z ≤ 24) ∧ 4 ≤ p ∧ p ≤ 16) → boundF z p = 0 := fun hh => if_neg hh
  refine cut_q (ts := []) (fun _ h' => h' = h ∧ (11 ≤ z ∧ z ≤ 24) ∧ 4 ≤ p ∧ p ≤ 16) ?_ ?_
  rotate_left
  · intro K hK
    refine br_of (fun h1 => ⟨by rw [no (by have := of_decide_eq_true h1; omega)], rfl⟩) fun h1 => br_of (fun h2 => ⟨by rw [no (by have := of_decide_eq_true h2; omega)], rfl⟩) fun h2 => br_of (fun h3 => ⟨by rw [no (by have := of_decide_eq_true h3; omega)], rfl⟩) fun h3 => br_of (fun h4 => ⟨by rw [no (by have := of_decide_eq_true h4; omega)], rfl⟩) fun h4 => hK () _ ⟨rfl, ?_⟩
    have h1 := of_decide_eq_false h1; have h2 := of_decide_eq_false h2; have h3 := of_decide_eq_false h3; have h4 := of_decide_eq_false h4
    omega
  rintro _ h' ⟨hh, hz, hp⟩ _; subst h'
  have hb : boundF z p = boundFrom z p 64 := if_pos ⟨hz, hp⟩
  have hzp : 0 ≤ (z - 7) * p ∧ (z - 7) * p ≤ 17 * 16 := ⟨Int.mul_nonneg (by omega) (by omega), Int.mul_le_mul (by omega) (by omega) (by omega) (by omega)⟩
  refine ⟨fun (s : Int × Int) h' => h' = h ∧ ∃ i : Nat, s = (boundFrom z p i, ((i + 1 : Nat) : Int)) ∧ i ≤ 64, fun (s : Int × Int) _ => (65 - s.2).toNat, ⟨rfl, 0, rfl, by omega⟩, ?_⟩
  rintro s j h' ⟨hh, i, rfl, hi⟩; subst h'
  have hbl := boundFrom_le z p i
  refine br_of (fun hlt => ?_) (fun hlt => ?_)
  · have hlt : ((i + 1 : Nat) : Int) ≤ 64 := of_decide_eq_true hlt
    have e3 : IntKind.wrap .i64 (((i + 1 : Nat) : Int) + 1) = ((i + 1 + 1 : Nat) : Int) := by rw [wr64 (by omega) (by omega)]; rfl
    have step : ∀ b : Int, b = boundFrom z p (i + 1) → (h = h ∧ ∃ i' : Nat, (b, ((i + 1 + 1 : Nat) : Int)) = (boundFrom z p i', ((i' + 1 : Nat) : Int)) ∧ i' ≤ 64) ∧ ((65 : Int) - ((i + 1 + 1 : Nat) : Int)).toNat < ((65 : Int) - ((i + 1 : Nat) : Int)).toNat := fun b hb => ⟨⟨rfl, i + 1, by rw [hb], by omega⟩, by omega⟩
    have e4 : IntKind.wrap .i64 ((IntKind.wrap .i64 (z - (7 : Int))) * p) = (z - 7) * p := by rw [wr64 (n := z - 7) (by omega) (by omega), wr64 (by omega) (by omega)]
    have e5 : IntKind.wrap .i64 ((2 : Int) * IntKind.wrap .i64 (((i + 1 : Nat) : Int) + (((i + 1 : Nat) : Int) + 3) / 4)) = 2 * (((i + 1 : Nat) : Int) + (((i + 1 : Nat) : Int) + 3) / 4) := by rw [wr64 (n := ((i + 1 : Nat) : Int) + _) (by omega) (by omega), wr64 (by omega) (by omega)]
    refine call_of (tab_ok ((i + 1 : Nat) : Int) h (by omega) (by omega)) ?_
    rintro v h' ⟨rfl, hh⟩; subst h'
    refine ⟨((((i + 1 : Nat) : Int) + 3) / 4 : Int), rfl, br_of (fun h1 => ?_) fun h1 => ?_⟩
    · refine call_of (tab_ok ((i + 1 : Nat) : Int) h (by omega) (by omega)) ?_
      rintro v h' ⟨rfl, hh⟩; subst h'
      refine ⟨((((i + 1 : Nat) : Int) + 3) / 4 : Int), rfl, ?_⟩
      rw [e3, e4, e5]
      have h1 : (((i + 1 : Nat) : Int) + 3) / 4 ≤ p := of_decide_eq_true h1
      refine br_of (fun h2 => step _ ?_) (fun h2 => step _ ?_)
      · have h2 : 2 * (((i + 1 : Nat) : Int) + (((i + 1 : Nat) : Int) + 3) / 4) ≤ (z - 7) * p := of_decide_eq_true h2
        simp only [boundFrom]
        rw [if_pos]
        unfold okB
        rw [decide_eq_true h1, decide_eq_true (by generalize (z - 7) * p = Q at *; omega)]; rfl
      · have h2 : ¬ 2 * (((i + 1 : Nat) : Int) + (((i + 1 : Nat) : Int) + 3) / 4) ≤ (z - 7) * p := of_decide_eq_false h2
        simp only [boundFrom]
        rw [if_neg]
        unfold okB
        rw [decide_eq_false (p := _ ≤ (z - 7) * p / 2) (by generalize (z - 7) * p = Q at *; omega)]; simp
    · rw [e3]
      have h1 : ¬ (((i + 1 : Nat) : Int) + 3) / 4 ≤ p := of_decide_eq_false h1
      refine step _ ?_
      simp only [boundFrom]
      rw [if_neg]
      unfold okB
      rw [decide_eq_false (p := _ ≤ p) h1]; simp
  · have hlt : ¬ ((i + 1 : Nat) : Int) ≤ 64 := of_decide_eq_false hlt
    have : i = 64 := by omega
    subst this
    exact ⟨by rw [hb], rfl⟩
theorem rright_ok (z p b : Int) (h : Heap) : CallsH Tryz.prog 24 [.agg #[.int .i64 z, .int .i64 p, .int .i64 b]] h fun v h' => v = .bool (rightB z p b) ∧ New h h' := by
  refine fun_ok hm' Tryz.func24 (by kernel_rfl) (F24_eq _ _ _ _ h) ?_
  unfold F24
  refine new_of fun h2 b2 n2 s2 => ld_of (c := .int .i64) b (by rw [add_mk, cellH_blk b2]; rfl) (br_of (fun h1 => ?_) fun h1 => ⟨?_, n2⟩)
  · refine ld_of (c := .int .i64) b (by rw [add_mk, cellH_blk b2]; rfl) (ld_of (c := .int .i64) z (by rw [add_mk, cellH_blk b2]; rfl) (ld_of (c := .int .i64) p (by rw [add_mk, cellH_blk b2]; rfl) (call_of (rbound_ok z p h2) ?_)))
    rintro v h' ⟨rfl, hh⟩; subst h'
    refine ⟨boundF z p, rfl, by rw [add_mk, cellH_blk b2]; rfl, ?_, n2⟩
    unfold rightB
    rw [decide_eq_true (p := 1 ≤ b) (of_decide_eq_true h1), Bool.and_true]
  · unfold rightB
    rw [decide_eq_false (p := 1 ≤ b) (of_decide_eq_false h1), Bool.and_false]
end Go.Proofs.YthimfpkkdhpceaaGreatDoor.R2
/-
  The formulas of the reference of ckpt. Each formula checked by the kernel. Printed by a program of this repo.
-/
namespace Go.Proofs.YthimfpkkdhpceaaGreatDoor.W
open Go.Pl

-- function 83
set_option maxRecDepth 100000 in
def F83 (c_0_0 : Int) (c_0_1 : Int) (c_0_2 : Int) (c_0_3 : Int) (c_0_4 : Int) (c_0_5 : Int) (c_0_6 : Option Addr) (c_0_6l c_0_6c : Nat) (K : Value → Heap → Prop) (h0 : Heap) : Prop := (
  newW (.cells #[.int .u32 c_0_0, .int .u32 c_0_1, .int .u32 c_0_2, .int .i64 c_0_3, .int .i64 c_0_4, .int .i64 c_0_5, .slice c_0_6 c_0_6l c_0_6c] 46) (fun a1 h2 =>
  ldAggW [.int .i64, .int .i64, .int .i64] (Addr.add a1 3) (fun (x3 : Int × Int × Int) =>
  callT Tryz.prog 24 [.agg #[.int .i64 x3.1, .int .i64 x3.2.1, .int .i64 x3.2.2]] [.sc .bool] (fun (r4 : Bool) h5 =>
  br r4
  (ldW .slice (Addr.add a1 6) (fun (x6 : Option Addr × Nat × Nat) =>
  ldW (.int .i64) (Addr.add (Addr.add a1 3) 2) (fun (x7 : Int) =>
  callQ Tryz.prog 105 [.int .i64 x7] [.sc (.int .i64)] (fun (r8 : Int) =>
  K (.bool ((((x6.2.1 : Nat) : Int)) == r8)) h5) h5) h5) h5)
  (K (.bool false) h5)) h2) h2) h0)
set_option maxRecDepth 100000 in
theorem F83_eq (c_0_0 : Int) (c_0_1 : Int) (c_0_2 : Int) (c_0_3 : Int) (c_0_4 : Int) (c_0_5 : Int) (c_0_6 : Option Addr) (c_0_6l c_0_6c : Nat) (K : Value → Heap → Prop) (h0 : Heap) : funWE Tryz.prog 83 (.seq (.leaf) (.seq (.draw (odp [0, 1, 2, 3, 4, 5, 6, 7, 8, 9, 10, 11, 12, 13] .nil) [10]) (.leaf))) [.agg #[.int .u32 c_0_0, .int .u32 c_0_1, .int .u32 c_0_2, .int .i64 c_0_3, .int .i64 c_0_4, .int .i64 c_0_5, .slice c_0_6 c_0_6l c_0_6c]] K h0 = F83 c_0_0 c_0_1 c_0_2 c_0_3 c_0_4 c_0_5 c_0_6 c_0_6l c_0_6c K h0 := by kernel_rfl

-- function 104
set_option maxRecDepth 100000 in
def F104 (blocks_0 : Int) (K : Value → Heap → Prop) (h0 : Heap) : Prop := (
  callT Tryz.prog 105 [.int .i64 blocks_0] [.sc (.int .i64)] (fun (r1 : Int) h2 =>
  K (.int .i64 (IntKind.wrap .i64 (Int.tdiv (IntKind.wrap .i64 ((IntKind.wrap .i64 ((4 : Int) * (IntKind.wrap .i64 ((7 : Int) + r1)))) + (15 : Int))) (16 : Int)))) h2) h0)
set_option maxRecDepth 100000 in
theorem F104_eq (blocks_0 : Int) (K : Value → Heap → Prop) (h0 : Heap) : funWE Tryz.prog 104 (.seq (.leaf) (.seq (.leaf) (.seq (.leaf) (.leaf)))) [.int .i64 blocks_0] K h0 = F104 blocks_0 K h0 := by kernel_rfl

-- function 84
set_option maxRecDepth 100000 in
def F84 (n_0 : Int) (K : Value → Heap → Prop) (h0 : Heap) : Prop := (
  newW (.cells #[.int .u8 (IntKind.wrap .u8 (Int.tmod n_0 (256 : Int))), .int .u8 (IntKind.wrap .u8 (Int.tmod (IntKind.wrap .u32 (Int.tdiv n_0 (256 : Int))) (256 : Int))), .int .u8 (IntKind.wrap .u8 (Int.tmod (IntKind.wrap .u32 (Int.tdiv n_0 (65536 : Int))) (256 : Int))), .int .u8 (IntKind.wrap .u8 (IntKind.wrap .u32 (Int.tdiv n_0 (16777216 : Int))))] 5) (fun a1 h2 =>
  K (.slice (some a1) 4 4) h2) h0)
set_option maxRecDepth 100000 in
theorem F84_eq (n_0 : Int) (K : Value → Heap → Prop) (h0 : Heap) : funWE Tryz.prog 84 (.seq (.leaf) (.seq (.leaf) (.leaf))) [.int .u32 n_0] K h0 = F84 n_0 K h0 := by kernel_rfl

-- function 103
set_option maxRecDepth 100000 in
def F103 (b_0 : Option Addr) (b_0l _b_0c : Nat) (at_1 : Int) (K : Value → Heap → Prop) (h0 : Heap) : Prop := (
  ptrW b_0 (fun a1 =>
  idxW (IntKind.wrap .i64 ((4 : Int) * at_1)) b_0l true (ldW (.int .u8) (Addr.add a1 (Int.toNat (IntKind.wrap .i64 ((4 : Int) * at_1)) * 1)) (fun (x2 : Int) =>
  ptrW b_0 (fun a3 =>
  idxW (IntKind.wrap .i64 ((IntKind.wrap .i64 ((4 : Int) * at_1)) + (1 : Int))) b_0l true (ldW (.int .u8) (Addr.add a3 (Int.toNat (IntKind.wrap .i64 ((IntKind.wrap .i64 ((4 : Int) * at_1)) + (1 : Int))) * 1)) (fun (x4 : Int) =>
  ptrW b_0 (fun a5 =>
  idxW (IntKind.wrap .i64 ((IntKind.wrap .i64 ((4 : Int) * at_1)) + (2 : Int))) b_0l true (ldW (.int .u8) (Addr.add a5 (Int.toNat (IntKind.wrap .i64 ((IntKind.wrap .i64 ((4 : Int) * at_1)) + (2 : Int))) * 1)) (fun (x6 : Int) =>
  ptrW b_0 (fun a7 =>
  idxW (IntKind.wrap .i64 ((IntKind.wrap .i64 ((4 : Int) * at_1)) + (3 : Int))) b_0l true (ldW (.int .u8) (Addr.add a7 (Int.toNat (IntKind.wrap .i64 ((IntKind.wrap .i64 ((4 : Int) * at_1)) + (3 : Int))) * 1)) (fun (x8 : Int) =>
  K (.int .u32 (IntKind.wrap .u32 ((IntKind.wrap .u32 ((IntKind.wrap .u32 ((IntKind.wrap .u32 x2) + (IntKind.wrap .u32 ((256 : Int) * (IntKind.wrap .u32 x4))))) + (IntKind.wrap .u32 ((65536 : Int) * (IntKind.wrap .u32 x6))))) + (IntKind.wrap .u32 ((16777216 : Int) * (IntKind.wrap .u32 x8)))))) h0) h0))) h0))) h0))) h0)))
set_option maxRecDepth 100000 in
theorem F103_eq (b_0 : Option Addr) (b_0l b_0c : Nat) (at_1 : Int) (K : Value → Heap → Prop) (h0 : Heap) : funWE Tryz.prog 103 (.seq (.leaf) (.seq (.draw (odp [0, 1, 2, 3, 4, 5, 6, 7, 8, 9, 10, 11, 12, 13, 14, 15, 16, 17, 18, 19, 20, 21, 22, 23, 24, 25, 26, 27, 28, 29, 30, 31, 32, 33] .nil) []) (.leaf))) [.slice b_0 b_0l b_0c, .int .i64 at_1] K h0 = F103 b_0 b_0l b_0c at_1 K h0 := by kernel_rfl

-- function 40
set_option maxRecDepth 100000 in
def F40 (c_0_0 : Int) (c_0_1 : Int) (c_0_2 : Int) (c_0_3 : Int) (c_0_4 : Int) (c_0_5 : Int) (c_0_6 : Option Addr) (c_0_6l c_0_6c : Nat) (K : Value → Heap → Prop) (h0 : Heap) : Prop := (
  newW (.cells #[.int .u32 c_0_0, .int .u32 c_0_1, .int .u32 c_0_2, .int .i64 c_0_3, .int .i64 c_0_4, .int .i64 c_0_5, .slice c_0_6 c_0_6l c_0_6c] 46) (fun a1 h2 =>
  ldAggW [.int .u32, .int .u32, .int .u32, .int .i64, .int .i64, .int .i64, .slice] a1 (fun (x3 : Int × Int × Int × Int × Int × Int × (Option Addr × Nat × Nat)) =>
  callT Tryz.prog 83 [.agg #[.int .u32 x3.1, .int .u32 x3.2.1, .int .u32 x3.2.2.1, .int .i64 x3.2.2.2.1, .int .i64 x3.2.2.2.2.1, .int .i64 x3.2.2.2.2.2.1, .slice x3.2.2.2.2.2.2.1 x3.2.2.2.2.2.2.2.1 x3.2.2.2.2.2.2.2.2]] [.sc .bool] (fun (r4 : Bool) h5 =>
  br (!r4)
  (K (.tuple #[.slice none 0 0, .int .i64 1]) h5)
  (ldW (.int .u32) (Addr.add a1 0) (fun (x6 : Int) =>
  ldW (.int .u32) (Addr.add a1 1) (fun (x7 : Int) =>
  ldW (.int .u32) (Addr.add a1 2) (fun (x8 : Int) =>
  ldW (.int .i64) (Addr.add (Addr.add a1 3) 0) (fun (x9 : Int) =>
  ldW (.int .i64) (Addr.add (Addr.add a1 3) 1) (fun (x10 : Int) =>
  ldW (.int .i64) (Addr.add (Addr.add a1 3) 2) (fun (x11 : Int) =>
  newW (.cells #[.int .u32 x6, .int .u32 x7, .int .u32 x8, .int .u32 (IntKind.wrap .u32 x9), .int .u32 (IntKind.wrap .u32 x10), .int .u32 (IntKind.wrap .u32 x11)] 35) (fun a12 h13 =>
  ldW .slice (Addr.add a1 6) (fun (x14 : Option Addr × Nat × Nat) =>
  apW Tryz.prog #[38, 38] #[.slice (some a12) 6 6, .slice x14.1 x14.2.1 x14.2.2] (fun b15 n16 _c17 h18 =>
  newW (.cells #[] 5) (fun a19 h20 =>
  loopT [.sc .slice, .sc (.int .i64)] (fun (s22 : (Option Addr × Nat × Nat) × Int) _ (K21 : ((Option Addr × Nat × Nat) × Int) → Heap → Prop) h23 =>
  br (decide (s22.2 < (((n16 : Nat) : Int))))
  (ptrW b15 (fun a24 =>
  idxW s22.2 n16 true (ldW (.int .u32) (Addr.add a24 (Int.toNat s22.2 * 1)) (fun (x25 : Int) =>
  callT Tryz.prog 84 [.int .u32 x25] [.sc .slice] (fun (r26 : (Option Addr × Nat × Nat)) h27 =>
  apW Tryz.prog #[68, 68] #[.slice s22.1.1 s22.1.2.1 s22.1.2.2, .slice r26.1 r26.2.1 r26.2.2] (fun b28 n29 c30 h31 =>
  K21 ((b28, n29, c30), (IntKind.wrap .i64 (s22.2 + (1 : Int)))) h31) h27) h23) h23)))
  (callT Tryz.prog 85 [.slice s22.1.1 s22.1.2.1 s22.1.2.2] [.sc (.int .u32)] (fun (r32 : Int) h33 =>
  callT Tryz.prog 84 [.int .u32 r32] [.sc .slice] (fun (r34 : (Option Addr × Nat × Nat)) h35 =>
  apW Tryz.prog #[68, 68] #[.slice s22.1.1 s22.1.2.1 s22.1.2.2, .slice r34.1 r34.2.1 r34.2.2] (fun b36 n37 c38 h39 =>
  loopT [.sc .slice] (fun (s41 : (Option Addr × Nat × Nat)) _ (K40 : ((Option Addr × Nat × Nat)) → Heap → Prop) h42 =>
  br ((Int.tmod (((s41.2.1 : Nat) : Int)) (16 : Int)) != (0 : Int))
  (newW (.cells #[.int .u8 0] 5) (fun a43 h44 =>
  apW Tryz.prog #[68, 68] #[.slice s41.1 s41.2.1 s41.2.2, .slice (some a43) 1 1] (fun b45 n46 c47 h48 =>
  K40 (b45, n46, c47) h48) h44) h42)
  (newW (.cells #[] 68) (fun a49 h50 =>
  loopT [.sc .slice, .sc (.int .i64)] (fun (s52 : (Option Addr × Nat × Nat) × Int) _ (K51 : ((Option Addr × Nat × Nat) × Int) → Heap → Prop) h53 =>
  br (decide (s52.2 < (((s41.2.1 : Nat) : Int))))
  (newW (.cells #[] 5) (fun a54 h55 =>
  slW s41.1 s41.2.2 1 s52.2 (IntKind.wrap .i64 (s52.2 + (16 : Int))) (((s41.2.2 : Nat) : Int)) (fun b56 n57 c58 =>
  apW Tryz.prog #[68, 68] #[.slice (some a54) 0 0, .slice b56 n57 c58] (fun b59 n60 c61 h62 =>
  newW (.cells #[.slice b59 n60 c61] 68) (fun a63 h64 =>
  apW Tryz.prog #[67, 67] #[.slice s52.1.1 s52.1.2.1 s52.1.2.2, .slice (some a63) 1 1] (fun b65 n66 c67 h68 =>
  K51 ((b65, n66, c67), (IntKind.wrap .i64 (s52.2 + (16 : Int)))) h68) h64) h62) h55)) h53)
  (K (.tuple #[.slice s52.1.1 s52.1.2.1 s52.1.2.2, .int .i64 0]) h53)) (((some a49), 0, 0), (0 : Int)) h50) h42)) (b36, n37, c38) h39) h35) h33) h23)) (((some a19), 0, 0), (0 : Int)) h20) h18) h13) h13) h5) h5) h5) h5) h5) h5) h5)) h2) h2) h0)
set_option maxRecDepth 100000 in
theorem F40_eq (c_0_0 : Int) (c_0_1 : Int) (c_0_2 : Int) (c_0_3 : Int) (c_0_4 : Int) (c_0_5 : Int) (c_0_6 : Option Addr) (c_0_6l c_0_6c : Nat) (K : Value → Heap → Prop) (h0 : Heap) : funWE Tryz.prog 40 (.seq (.leaf) (.seq (.seq (.leaf) (.cond (.seq (.leaf) (.leaf)) (.leaf))) (.seq (.leaf) (.seq (.leaf) (.seq (.seq (.leaf) (.block (.loop [(5, .sc .slice), (6, .sc (.int .i64))] (.seq (.seq (.leaf) (.cond (.leaf) (.leaf))) (.seq (.block (.leaf)) (.leaf)))))) (.seq (.leaf) (.seq (.block (.loop [(5, .sc .slice)] (.seq (.seq (.leaf) (.cond (.leaf) (.leaf))) (.block (.leaf))))) (.seq (.leaf) (.seq (.seq (.leaf) (.block (.loop [(7, .sc .slice), (8, .sc (.int .i64))] (.seq (.seq (.leaf) (.cond (.leaf) (.leaf))) (.seq (.block (.leaf)) (.leaf)))))) (.seq (.leaf) (.leaf))))))))))) [.agg #[.int .u32 c_0_0, .int .u32 c_0_1, .int .u32 c_0_2, .int .i64 c_0_3, .int .i64 c_0_4, .int .i64 c_0_5, .slice c_0_6 c_0_6l c_0_6c]] K h0 = F40 c_0_0 c_0_1 c_0_2 c_0_3 c_0_4 c_0_5 c_0_6 c_0_6l c_0_6c K h0 := by kernel_rfl

-- function 56
set_option maxRecDepth 100000 in
def F56 (l_0 : Option Addr) (l_0l _l_0c : Nat) (K : Value → Heap → Prop) (h0 : Heap) : Prop := (
  newW (.cells (zeroC Tryz.prog 46) 46) (fun a1 h2 =>
  newW (.cells #[] 5) (fun a3 h4 =>
  loopT [.sc .slice, .sc (.int .i64)] (fun (s6 : (Option Addr × Nat × Nat) × Int) _ (K5 : ((Option Addr × Nat × Nat) × Int) → Heap → Prop) h7 =>
  br (decide (s6.2 < (((l_0l : Nat) : Int))))
  (ptrW l_0 (fun a8 =>
  idxW s6.2 l_0l true (ldW .slice (Addr.add a8 (Int.toNat s6.2 * 1)) (fun (x9 : Option Addr × Nat × Nat) =>
  br ((((x9.2.1 : Nat) : Int)) != (16 : Int))
  (stLW a1 [.int .u32 0, .int .u32 0, .int .u32 0, .int .i64 0, .int .i64 0, .int .i64 0, .slice none 0 0] (fun h10 =>
  ldAggW [.int .u32, .int .u32, .int .u32, .int .i64, .int .i64, .int .i64, .slice] a1 (fun (x11 : Int × Int × Int × Int × Int × Int × (Option Addr × Nat × Nat)) =>
  K (.tuple #[.agg #[.int .u32 x11.1, .int .u32 x11.2.1, .int .u32 x11.2.2.1, .int .i64 x11.2.2.2.1, .int .i64 x11.2.2.2.2.1, .int .i64 x11.2.2.2.2.2.1, .slice x11.2.2.2.2.2.2.1 x11.2.2.2.2.2.2.2.1 x11.2.2.2.2.2.2.2.2], .int .i64 3]) h10) h10) h7)
  (ptrW l_0 (fun a12 =>
  idxW s6.2 l_0l true (ldW .slice (Addr.add a12 (Int.toNat s6.2 * 1)) (fun (x13 : Option Addr × Nat × Nat) =>
  apW Tryz.prog #[68, 68] #[.slice s6.1.1 s6.1.2.1 s6.1.2.2, .slice x13.1 x13.2.1 x13.2.2] (fun b14 n15 c16 h17 =>
  K5 ((b14, n15, c16), (IntKind.wrap .i64 (s6.2 + (1 : Int)))) h17) h7) h7)))) h7)))
  (br (decide ((((l_0l : Nat) : Int)) < (2 : Int)))
  (stLW a1 [.int .u32 0, .int .u32 0, .int .u32 0, .int .i64 0, .int .i64 0, .int .i64 0, .slice none 0 0] (fun h18 =>
  ldAggW [.int .u32, .int .u32, .int .u32, .int .i64, .int .i64, .int .i64, .slice] a1 (fun (x19 : Int × Int × Int × Int × Int × Int × (Option Addr × Nat × Nat)) =>
  K (.tuple #[.agg #[.int .u32 x19.1, .int .u32 x19.2.1, .int .u32 x19.2.2.1, .int .i64 x19.2.2.2.1, .int .i64 x19.2.2.2.2.1, .int .i64 x19.2.2.2.2.2.1, .slice x19.2.2.2.2.2.2.1 x19.2.2.2.2.2.2.2.1 x19.2.2.2.2.2.2.2.2], .int .i64 3]) h18) h18) h7)
  (callT Tryz.prog 103 [.slice s6.1.1 s6.1.2.1 s6.1.2.2, .int .i64 3] [.sc (.int .u32)] (fun (r20 : Int) h21 =>
  callT Tryz.prog 103 [.slice s6.1.1 s6.1.2.1 s6.1.2.2, .int .i64 4] [.sc (.int .u32)] (fun (r22 : Int) h23 =>
  callT Tryz.prog 103 [.slice s6.1.1 s6.1.2.1 s6.1.2.2, .int .i64 5] [.sc (.int .u32)] (fun (r24 : Int) h25 =>
  newW (.cells (zeroC Tryz.prog 44) 44) (fun a26 h27 =>
  stLW a26 [.int .i64 (IntKind.wrap .i64 r20), .int .i64 (IntKind.wrap .i64 r22), .int .i64 (IntKind.wrap .i64 r24)] (fun h28 =>
  ldAggW [.int .i64, .int .i64, .int .i64] a26 (fun (x29 : Int × Int × Int) =>
  callT Tryz.prog 24 [.agg #[.int .i64 x29.1, .int .i64 x29.2.1, .int .i64 x29.2.2]] [.sc .bool] (fun (r30 : Bool) h31 =>
  br (!r30)
  (stLW a1 [.int .u32 0, .int .u32 0, .int .u32 0, .int .i64 0, .int .i64 0, .int .i64 0, .slice none 0 0] (fun h32 =>
  ldAggW [.int .u32, .int .u32, .int .u32, .int .i64, .int .i64, .int .i64, .slice] a1 (fun (x33 : Int × Int × Int × Int × Int × Int × (Option Addr × Nat × Nat)) =>
  K (.tuple #[.agg #[.int .u32 x33.1, .int .u32 x33.2.1, .int .u32 x33.2.2.1, .int .i64 x33.2.2.2.1, .int .i64 x33.2.2.2.2.1, .int .i64 x33.2.2.2.2.2.1, .slice x33.2.2.2.2.2.2.1 x33.2.2.2.2.2.2.2.1 x33.2.2.2.2.2.2.2.2], .int .i64 2]) h32) h32) h31)
  (ldW (.int .i64) (Addr.add a26 2) (fun (x34 : Int) =>
  callT Tryz.prog 104 [.int .i64 x34] [.sc (.int .i64)] (fun (r35 : Int) h36 =>
  br ((((l_0l : Nat) : Int)) != r35)
  (stLW a1 [.int .u32 0, .int .u32 0, .int .u32 0, .int .i64 0, .int .i64 0, .int .i64 0, .slice none 0 0] (fun h37 =>
  ldAggW [.int .u32, .int .u32, .int .u32, .int .i64, .int .i64, .int .i64, .slice] a1 (fun (x38 : Int × Int × Int × Int × Int × Int × (Option Addr × Nat × Nat)) =>
  K (.tuple #[.agg #[.int .u32 x38.1, .int .u32 x38.2.1, .int .u32 x38.2.2.1, .int .i64 x38.2.2.2.1, .int .i64 x38.2.2.2.2.1, .int .i64 x38.2.2.2.2.2.1, .slice x38.2.2.2.2.2.2.1 x38.2.2.2.2.2.2.2.1 x38.2.2.2.2.2.2.2.2], .int .i64 3]) h37) h37) h36)
  (ldW (.int .i64) (Addr.add a26 2) (fun (x39 : Int) =>
  callT Tryz.prog 105 [.int .i64 x39] [.sc (.int .i64)] (fun (r40 : Int) h41 =>
  slW s6.1.1 s6.1.2.2 1 (0 : Int) (IntKind.wrap .i64 ((24 : Int) + (IntKind.wrap .i64 ((4 : Int) * r40)))) (((s6.1.2.2 : Nat) : Int)) (fun b42 n43 c44 =>
  callT Tryz.prog 85 [.slice b42 n43 c44] [.sc (.int .u32)] (fun (r45 : Int) h46 =>
  callT Tryz.prog 103 [.slice s6.1.1 s6.1.2.1 s6.1.2.2, .int .i64 (IntKind.wrap .i64 ((6 : Int) + r40))] [.sc (.int .u32)] (fun (r47 : Int) h48 =>
  br (r45 != r47)
  (stLW a1 [.int .u32 0, .int .u32 0, .int .u32 0, .int .i64 0, .int .i64 0, .int .i64 0, .slice none 0 0] (fun h49 =>
  ldAggW [.int .u32, .int .u32, .int .u32, .int .i64, .int .i64, .int .i64, .slice] a1 (fun (x50 : Int × Int × Int × Int × Int × Int × (Option Addr × Nat × Nat)) =>
  K (.tuple #[.agg #[.int .u32 x50.1, .int .u32 x50.2.1, .int .u32 x50.2.2.1, .int .i64 x50.2.2.2.1, .int .i64 x50.2.2.2.2.1, .int .i64 x50.2.2.2.2.2.1, .slice x50.2.2.2.2.2.2.1 x50.2.2.2.2.2.2.2.1 x50.2.2.2.2.2.2.2.2], .int .i64 4]) h49) h49) h48)
  (loopT [.sc (.int .i64)] (fun (s52 : Int) _ (K51 : Int → Heap → Prop) h53 =>
  br (decide (s52 < (((s6.1.2.1 : Nat) : Int))))
  (ptrW s6.1.1 (fun a54 =>
  idxW s52 s6.1.2.1 true (ldW (.int .u8) (Addr.add a54 (Int.toNat s52 * 1)) (fun (x55 : Int) =>
  br (x55 != (0 : Int))
  (stLW a1 [.int .u32 0, .int .u32 0, .int .u32 0, .int .i64 0, .int .i64 0, .int .i64 0, .slice none 0 0] (fun h56 =>
  ldAggW [.int .u32, .int .u32, .int .u32, .int .i64, .int .i64, .int .i64, .slice] a1 (fun (x57 : Int × Int × Int × Int × Int × Int × (Option Addr × Nat × Nat)) =>
  K (.tuple #[.agg #[.int .u32 x57.1, .int .u32 x57.2.1, .int .u32 x57.2.2.1, .int .i64 x57.2.2.2.1, .int .i64 x57.2.2.2.2.1, .int .i64 x57.2.2.2.2.2.1, .slice x57.2.2.2.2.2.2.1 x57.2.2.2.2.2.2.2.1 x57.2.2.2.2.2.2.2.2], .int .i64 2]) h56) h56) h53)
  (K51 (IntKind.wrap .i64 (s52 + (1 : Int))) h53)) h53)))
  (callQ Tryz.prog 103 [.slice s6.1.1 s6.1.2.1 s6.1.2.2, .int .i64 0] [.sc (.int .u32)] (fun (r58 : Int) =>
  callQ Tryz.prog 103 [.slice s6.1.1 s6.1.2.1 s6.1.2.2, .int .i64 1] [.sc (.int .u32)] (fun (r59 : Int) =>
  callQ Tryz.prog 103 [.slice s6.1.1 s6.1.2.1 s6.1.2.2, .int .i64 2] [.sc (.int .u32)] (fun (r60 : Int) =>
  ldAggW [.int .i64, .int .i64, .int .i64] a26 (fun (x61 : Int × Int × Int) =>
  newW (.cells (zeroC Tryz.prog 46) 46) (fun a62 h63 =>
  stLW a62 [.int .u32 r58, .int .u32 r59, .int .u32 r60, .int .i64 x61.1, .int .i64 x61.2.1, .int .i64 x61.2.2, .slice none 0 0] (fun h64 =>
  loopT [.sc (.int .i64)] (fun (s66 : Int) _ (K65 : Int → Heap → Prop) h67 =>
  br (decide (s66 < r40))
  (ldW .slice (Addr.add a62 6) (fun (x68 : Option Addr × Nat × Nat) =>
  callQ Tryz.prog 103 [.slice s6.1.1 s6.1.2.1 s6.1.2.2, .int .i64 (IntKind.wrap .i64 ((6 : Int) + s66))] [.sc (.int .u32)] (fun (r69 : Int) =>
  newW (.cells #[.int .u32 r69] 35) (fun a70 h71 =>
  apW Tryz.prog #[38, 38] #[.slice x68.1 x68.2.1 x68.2.2, .slice (some a70) 1 1] (fun b72 n73 c74 h75 =>
  stW (Addr.add a62 6) (.slice b72 n73 c74) (fun h76 =>
  K65 (IntKind.wrap .i64 (s66 + (1 : Int))) h76) h75) h71) h67) h67) h67)
  (ldAggW [.int .u32, .int .u32, .int .u32, .int .i64, .int .i64, .int .i64, .slice] a62 (fun (x77 : Int × Int × Int × Int × Int × Int × (Option Addr × Nat × Nat)) =>
  stLW a1 [.int .u32 x77.1, .int .u32 x77.2.1, .int .u32 x77.2.2.1, .int .i64 x77.2.2.2.1, .int .i64 x77.2.2.2.2.1, .int .i64 x77.2.2.2.2.2.1, .slice x77.2.2.2.2.2.2.1 x77.2.2.2.2.2.2.2.1 x77.2.2.2.2.2.2.2.2] (fun h78 =>
  ldAggW [.int .u32, .int .u32, .int .u32, .int .i64, .int .i64, .int .i64, .slice] a1 (fun (x79 : Int × Int × Int × Int × Int × Int × (Option Addr × Nat × Nat)) =>
  K (.tuple #[.agg #[.int .u32 x79.1, .int .u32 x79.2.1, .int .u32 x79.2.2.1, .int .i64 x79.2.2.2.1, .int .i64 x79.2.2.2.2.1, .int .i64 x79.2.2.2.2.2.1, .slice x79.2.2.2.2.2.2.1 x79.2.2.2.2.2.2.2.1 x79.2.2.2.2.2.2.2.2], .int .i64 0]) h78) h78) h67) h67)) (0 : Int) h64) h63) h53) h53) h53) h53) h53)) (IntKind.wrap .i64 ((28 : Int) + (IntKind.wrap .i64 ((4 : Int) * r40)))) h48)) h46) h41)) h36) h36)) h31) h31)) h28) h28) h27) h25) h23) h21) h7))) (((some a3), 0, 0), (0 : Int)) h4) h2) h0)
set_option maxRecDepth 100000 in
theorem F56_eq (l_0 : Option Addr) (l_0l l_0c : Nat) (K : Value → Heap → Prop) (h0 : Heap) : funWE Tryz.prog 56 (.seq (.leaf) (.seq (.leaf) (.seq (.seq (.leaf) (.block (.loop [(4, .sc .slice), (5, .sc (.int .i64))] (.seq (.seq (.leaf) (.cond (.leaf) (.leaf))) (.seq (.block (.seq (.seq (.leaf) (.cond (.seq (.leaf) (.leaf)) (.leaf))) (.leaf))) (.leaf)))))) (.seq (.seq (.leaf) (.cond (.seq (.leaf) (.leaf)) (.leaf))) (.seq (.leaf) (.seq (.seq (.leaf) (.cond (.seq (.leaf) (.leaf)) (.leaf))) (.seq (.seq (.leaf) (.cond (.seq (.leaf) (.leaf)) (.leaf))) (.seq (.leaf) (.seq (.seq (.leaf) (.cond (.seq (.leaf) (.leaf)) (.leaf))) (.seq (.seq (.leaf) (.block (.loop [(8, .sc (.int .i64))] (.seq (.seq (.leaf) (.cond (.leaf) (.leaf))) (.seq (.block (.seq (.leaf) (.cond (.seq (.leaf) (.leaf)) (.leaf)))) (.leaf)))))) (.seq (.draw (odp [0, 1, 2, 3, 4, 5, 6, 7, 8, 9] .nil) [1, 3, 5]) (.seq (.seq (.leaf) (.block (.loop [(10, .sc (.int .i64))] (.seq (.seq (.leaf) (.cond (.leaf) (.leaf))) (.seq (.block (.draw (odp [0, 1, 2, 3, 4, 5, 6, 7, 8, 9] .nil) [5])) (.leaf)))))) (.seq (.leaf) (.leaf)))))))))))))) [.slice l_0 l_0l l_0c] K h0 = F56 l_0 l_0l l_0c K h0 := by kernel_rfl

-- function 57
set_option maxRecDepth 100000 in
def F57 (a_0 : Option Addr) (a_0l _a_0c : Nat) (b_1 : Option Addr) (b_1l _b_1c : Nat) (K : Value → Heap → Prop) (h0 : Heap) : Prop := (
  br ((((a_0l : Nat) : Int)) != (((b_1l : Nat) : Int)))
  (K (.bool false) h0)
  (loopT [.sc (.int .i64)] (fun (s2 : Int) _ (K1 : Int → Heap → Prop) h3 =>
  br (decide (s2 < (((a_0l : Nat) : Int))))
  (ptrW a_0 (fun a4 =>
  idxW s2 a_0l true (ldW (.int .u32) (Addr.add a4 (Int.toNat s2 * 1)) (fun (x5 : Int) =>
  ptrW b_1 (fun a6 =>
  idxW s2 b_1l true (ldW (.int .u32) (Addr.add a6 (Int.toNat s2 * 1)) (fun (x7 : Int) =>
  br (x5 != x7)
  (K (.bool false) h3)
  (K1 (IntKind.wrap .i64 (s2 + (1 : Int))) h3)) h3))) h3)))
  (K (.bool true) h3)) (0 : Int) h0))
set_option maxRecDepth 100000 in
theorem F57_eq (a_0 : Option Addr) (a_0l a_0c : Nat) (b_1 : Option Addr) (b_1l b_1c : Nat) (K : Value → Heap → Prop) (h0 : Heap) : funWE Tryz.prog 57 (.seq (.leaf) (.seq (.seq (.leaf) (.cond (.seq (.leaf) (.leaf)) (.leaf))) (.seq (.seq (.leaf) (.block (.loop [(5, .sc (.int .i64))] (.seq (.seq (.leaf) (.cond (.leaf) (.leaf))) (.seq (.block (.seq (.draw (odp [0, 1, 2, 3, 4, 5, 6, 7, 8] .nil) []) (.cond (.seq (.leaf) (.leaf)) (.leaf)))) (.leaf)))))) (.seq (.leaf) (.leaf))))) [.slice a_0 a_0l a_0c, .slice b_1 b_1l b_1c] K h0 = F57 a_0 a_0l a_0c b_1 b_1l b_1c K h0 := by kernel_rfl

-- function 19
set_option maxRecDepth 100000 in
def F19 (a_0_0 : Int) (a_0_1 : Int) (a_0_2 : Int) (a_0_3 : Int) (a_0_4 : Int) (a_0_5 : Int) (a_0_6 : Option Addr) (a_0_6l a_0_6c : Nat) (b_1_0 : Int) (b_1_1 : Int) (b_1_2 : Int) (b_1_3 : Int) (b_1_4 : Int) (b_1_5 : Int) (b_1_6 : Option Addr) (b_1_6l b_1_6c : Nat) (K : Value → Heap → Prop) (h0 : Heap) : Prop := (
  newW (.cells #[.int .u32 a_0_0, .int .u32 a_0_1, .int .u32 a_0_2, .int .i64 a_0_3, .int .i64 a_0_4, .int .i64 a_0_5, .slice a_0_6 a_0_6l a_0_6c] 46) (fun a1 h2 =>
  newW (.cells #[.int .u32 b_1_0, .int .u32 b_1_1, .int .u32 b_1_2, .int .i64 b_1_3, .int .i64 b_1_4, .int .i64 b_1_5, .slice b_1_6 b_1_6l b_1_6c] 46) (fun a3 h4 =>
  ldW (.int .u32) (Addr.add a1 0) (fun (x5 : Int) =>
  ldW (.int .u32) (Addr.add a3 0) (fun (x6 : Int) =>
  br (x5 == x6)
  (ldW (.int .u32) (Addr.add a1 1) (fun (x7 : Int) =>
  ldW (.int .u32) (Addr.add a3 1) (fun (x8 : Int) =>
  br (x7 == x8)
  (ldW (.int .u32) (Addr.add a1 2) (fun (x9 : Int) =>
  ldW (.int .u32) (Addr.add a3 2) (fun (x10 : Int) =>
  br (x9 == x10)
  (ldAggW [.int .i64, .int .i64, .int .i64] (Addr.add a1 3) (fun (x11 : Int × Int × Int) =>
  ldAggW [.int .i64, .int .i64, .int .i64] (Addr.add a3 3) (fun (x12 : Int × Int × Int) =>
  eqGen Tryz.prog 44 (.agg #[.int .i64 x11.1, .int .i64 x11.2.1, .int .i64 x11.2.2]) (.agg #[.int .i64 x12.1, .int .i64 x12.2.1, .int .i64 x12.2.2]) (fun b13 =>
  br b13
  (ldW .slice (Addr.add a1 6) (fun (x14 : Option Addr × Nat × Nat) =>
  ldW .slice (Addr.add a3 6) (fun (x15 : Option Addr × Nat × Nat) =>
  callT Tryz.prog 57 [.slice x14.1 x14.2.1 x14.2.2, .slice x15.1 x15.2.1 x15.2.2] [.sc .bool] (fun (r16 : Bool) h17 =>
  K (.bool r16) h17) h4) h4) h4)
  (K (.bool false) h4))) h4) h4)
  (K (.bool false) h4)) h4) h4)
  (K (.bool false) h4)) h4) h4)
  (K (.bool false) h4)) h4) h4) h2) h0)
set_option maxRecDepth 100000 in
theorem F19_eq (a_0_0 : Int) (a_0_1 : Int) (a_0_2 : Int) (a_0_3 : Int) (a_0_4 : Int) (a_0_5 : Int) (a_0_6 : Option Addr) (a_0_6l a_0_6c : Nat) (b_1_0 : Int) (b_1_1 : Int) (b_1_2 : Int) (b_1_3 : Int) (b_1_4 : Int) (b_1_5 : Int) (b_1_6 : Option Addr) (b_1_6l b_1_6c : Nat) (K : Value → Heap → Prop) (h0 : Heap) : funWE Tryz.prog 19 (.seq (.leaf) (.seq (.leaf) (.leaf))) [.agg #[.int .u32 a_0_0, .int .u32 a_0_1, .int .u32 a_0_2, .int .i64 a_0_3, .int .i64 a_0_4, .int .i64 a_0_5, .slice a_0_6 a_0_6l a_0_6c], .agg #[.int .u32 b_1_0, .int .u32 b_1_1, .int .u32 b_1_2, .int .i64 b_1_3, .int .i64 b_1_4, .int .i64 b_1_5, .slice b_1_6 b_1_6l b_1_6c]] K h0 = F19 a_0_0 a_0_1 a_0_2 a_0_3 a_0_4 a_0_5 a_0_6 a_0_6l a_0_6c b_1_0 b_1_1 b_1_2 b_1_3 b_1_4 b_1_5 b_1_6 b_1_6l b_1_6c K h0 := by kernel_rfl

end Go.Proofs.YthimfpkkdhpceaaGreatDoor.W
/-
  The reference's Right; cells asked for.
-/
namespace Go.Proofs.YthimfpkkdhpceaaGreatDoor.Ck
open Go.Pl Go.Proofs.YthimfpkkdhpceaaGreatDoor.W Go.Proofs.YthimfpkkdhpceaaGreatDoor.Byts Go.Proofs.YthimfpkkdhpceaaGreatDoor.Four Go.Proofs.YthimfpkkdhpceaaGreatDoor.Adl Go.Proofs.YthimfpkkdhpceaaGreatDoor.Head Go.Proofs.YthimfpkkdhpceaaGreatDoor.Geo Go.Proofs.YthimfpkkdhpceaaGreatDoor.Rng Go.Proofs.YthimfpkkdhpceaaGreatDoor.As
theorem boundFrom_tab (z p : Int) : ∀ n, (boundFrom z p n + 3) / 4 ≤ p ∨ boundFrom z p n = 0
  | 0 => .inr rfl
  | n + 1 => by
    have ih := boundFrom_tab z p n
    simp only [boundFrom]
    split
    · rename_i h
      unfold okB at h
      rw [Bool.and_eq_true] at h
      exact .inl (of_decide_eq_true h.1)
    · exact ih
theorem right_tab {z p b : Int} (h : rightB z p b = true) : (b + 3) / 4 ≤ p := by
  obtain ⟨hz, hp, h1, _⟩ := right_facts h
  unfold rightB at h
  rw [Bool.and_eq_true] at h
  have h2 := of_decide_eq_true h.1
  unfold boundF at h2
  rw [if_pos ⟨hz, hp⟩] at h2
  rcases boundFrom_tab z p 64 with h3 | h3
  · omega
  · omega
theorem pages_c {c : Chk} (h : rightC c = true) : (manyN c.b : Int) ≤ c.p := by
  obtain ⟨hr, hz, hp, hb, _⟩ := right_c h
  have := right_tab hr
  unfold manyN lenN tabN; omega
theorem rright6_ok (c : Chk) (da : Option Addr) (dc : Nat) (h : Heap) : CallsH Tryz.prog 83 [chkV c da dc] h fun v h' => v = .bool (rightC c) ∧ New h h' := by
  refine fun_ok Geo.hm' Tryz.func83 (by kernel_rfl) (F83_eq _ _ _ _ _ _ _ _ _ _ h) ?_
  unfold F83
  refine new_of fun h1 b1 n1 s1 => ldAgg_add (o := 0) (c.z, c.p, c.b) b1 ⟨rfl, rfl, rfl, trivial⟩ (call_of (R2.rright_ok c.z c.p c.b h1) ?_)
  rintro v h2 ⟨rfl, n2⟩
  have b2 := b1.new n2
  refine ⟨_, rfl, br_of (fun hr => ?_) (fun hr => ⟨by unfold rightC; rw [hr]; rfl, n1.trans n2⟩)⟩
  obtain ⟨_, _, hb1, hb2⟩ := right_facts hr
  refine ld_of (c := .slice) (da, c.dir.length, dc) (by rw [add_mk, cellH_blk b2]; rfl) (ld_of (c := .int .i64) c.b (by rw [add_mk, add_mk, cellH_blk b2]; rfl) ⟨(c.b + 3) / 4, fun h' _ => R2.tab_ok c.b h' (by omega) (by omega), ?_, n1.trans n2⟩)
  unfold rightC
  rw [hr, Bool.true_and]
  rfl
/-- What a variable holds, asked for cell by cell. -/
theorem asks7 {h : Heap} {b : Nat} {T : TypeId} {c : Chk} {da : Option Addr} {dc : Nat} (bb : Blk h b (chkA c da dc) T) {Q : Prop} (hQ : Q) :
    (cellH h (Addr.add ⟨b, 0, none⟩ 0) = some (.int .u32 (chkC c da dc).1) ∧ (cellH h (Addr.add ⟨b, 0, none⟩ 1) = some (.int .u32 (chkC c da dc).2.1) ∧ (cellH h (Addr.add ⟨b, 0, none⟩ 2) = some (.int .u32 (chkC c da dc).2.2.1) ∧ (cellH h (Addr.add ⟨b, 0, none⟩ 3) = some (.int .i64 (chkC c da dc).2.2.2.1) ∧ (cellH h (Addr.add ⟨b, 0, none⟩ 4) = some (.int .i64 (chkC c da dc).2.2.2.2.1) ∧ (cellH h (Addr.add ⟨b, 0, none⟩ 5) = some (.int .i64 (chkC c da dc).2.2.2.2.2.1) ∧ (cellH h (Addr.add ⟨b, 0, none⟩ 6) = some (.slice (chkC c da dc).2.2.2.2.2.2.1 (chkC c da dc).2.2.2.2.2.2.2.1 (chkC c da dc).2.2.2.2.2.2.2.2) ∧ Q))))))) := by
  refine ⟨?_, ?_, ?_, ?_, ?_, ?_, ?_, hQ⟩ <;> (rw [add_mk, cellH_blk bb]; rfl)
end Go.Proofs.YthimfpkkdhpceaaGreatDoor.Ck
/-
  The formula of the reference of sum. Each formula checked by the kernel. Printed by a program of this repo.
-/
namespace Go.Proofs.YthimfpkkdhpceaaGreatDoor.W
open Go.Pl

-- function 85
set_option maxRecDepth 100000 in
def F85 (b_0 : Option Addr) (b_0l _b_0c : Nat) (K : Value → Heap → Prop) (h0 : Heap) : Prop := (
  loopT [.sc (.int .i64), .sc (.int .i64), .sc (.int .i64)] (fun (s2 : Int × Int × Int) _ (K1 : (Int × Int × Int) → Heap → Prop) h3 =>
  br (decide (s2.2.2 < (((b_0l : Nat) : Int))))
  (ptrW b_0 (fun a4 =>
  idxW s2.2.2 b_0l true (ldW (.int .u8) (Addr.add a4 (Int.toNat s2.2.2 * 1)) (fun (x5 : Int) =>
  K1 ((Int.tmod (IntKind.wrap .i64 (s2.1 + (IntKind.wrap .i64 x5))) (65521 : Int)), (Int.tmod (IntKind.wrap .i64 (s2.2.1 + (Int.tmod (IntKind.wrap .i64 (s2.1 + (IntKind.wrap .i64 x5))) (65521 : Int)))) (65521 : Int)), (IntKind.wrap .i64 (s2.2.2 + (1 : Int)))) h3) h3)))
  (K (.int .u32 (IntKind.wrap .u32 (IntKind.wrap .i64 ((IntKind.wrap .i64 (s2.2.1 * (65536 : Int))) + s2.1)))) h3)) ((1 : Int), (0 : Int), (0 : Int)) h0)
set_option maxRecDepth 100000 in
theorem F85_eq (b_0 : Option Addr) (b_0l b_0c : Nat) (K : Value → Heap → Prop) (h0 : Heap) : funWE Tryz.prog 85 (.seq (.leaf) (.seq (.leaf) (.seq (.leaf) (.seq (.seq (.leaf) (.block (.loop [(3, .sc (.int .i64)), (4, .sc (.int .i64)), (5, .sc (.int .i64))] (.seq (.seq (.leaf) (.cond (.leaf) (.leaf))) (.seq (.block (.seq (.leaf) (.leaf))) (.leaf)))))) (.seq (.leaf) (.leaf)))))) [.slice b_0 b_0l b_0c] K h0 = F85 b_0 b_0l b_0c K h0 := by kernel_rfl

end Go.Proofs.YthimfpkkdhpceaaGreatDoor.W
/-
  The reference of ckpt: its contracts.
-/
namespace Go.Proofs.YthimfpkkdhpceaaGreatDoor.Ck
open Go.Pl Go.Proofs.YthimfpkkdhpceaaGreatDoor.W Go.Proofs.YthimfpkkdhpceaaGreatDoor.Byts Go.Proofs.YthimfpkkdhpceaaGreatDoor.Four Go.Proofs.YthimfpkkdhpceaaGreatDoor.Adl Go.Proofs.YthimfpkkdhpceaaGreatDoor.Head Go.Proofs.YthimfpkkdhpceaaGreatDoor.Geo Go.Proofs.YthimfpkkdhpceaaGreatDoor.Rng Go.Proofs.YthimfpkkdhpceaaGreatDoor.As
theorem RB.none (h : Heap) (a : Option Addr) : RB h a [] := fun i bs hi => by simp at hi
theorem rof_ok (a : Option Addr) (c : Nat) (xs : List Int) (n : Nat) (hx : n = xs.length) (h : Heap) (hl : xs.length ≤ 100000) (hb : Byt xs) (r : Ar .u8 h a xs) :
    CallsH Tryz.prog 85 [.slice a n c] h fun v h' => v = .int .u32 (sumL xs) ∧ h' = h := by
  subst hx
  refine fun_ok Geo.hm' Tryz.func85 (by kernel_rfl) (F85_eq _ _ _ _ h) ?_
  unfold F85
  refine ⟨fun (q : Int × Int × Int) h' => h' = h ∧ ∃ i : Nat, q.2.2 = i ∧ i ≤ xs.length ∧ (q.1, q.2.1) = adl (1, 0) (xs.take i), fun (q : Int × Int × Int) _ => ((xs.length : Int) - q.2.2).toNat, ⟨rfl, 0, rfl, by omega, rfl⟩, ?_⟩
  rintro (⟨lo, hi, q⟩ : Int × Int × Int) j h' ⟨hh, i, hq, hi', ha⟩
  simp only [] at hq ha ⊢
  subst h'; subst hq
  have hin := adl_in (xs.take i) _ in10
  rw [← ha] at hin
  obtain ⟨⟨i1, i2⟩, i3, i4⟩ := hin
  simp only [] at i1 i2 i3 i4
  refine br_of (fun hlt => ?_) (fun hlt => ?_)
  · have hlt : i < xs.length := by simp at hlt; omega
    have hx := hb xs[i] (List.getElem_mem hlt)
    refine ix_ld r hlt hlt ?_
    rw [wr64 (n := xs[i]) (by omega) (by omega), wr64 (n := (lo : Int) + xs[i]) (by omega) (by omega), Int.tmod_eq_emod_of_nonneg (by omega), wr64 (n := (hi : Int) + _) (by omega) (by omega), Int.tmod_eq_emod_of_nonneg (by omega), wr64 (by omega) (by omega)]
    refine ⟨⟨rfl, i + 1, rfl, hlt, ?_⟩, (by first | omega | (dsimp only; omega) | (simp only []; omega))⟩
    rw [List.take_add_one, List.getElem?_eq_getElem hlt, adl_app, ← ha]; rfl
  · have he : i = xs.length := by simp at hlt; omega
    subst he
    rw [List.take_length] at ha
    refine ⟨?_, rfl⟩
    rw [wr64 (n := (hi : Int) * 65536) (by omega) (by omega), wr64 (by omega) (by omega), wru32, Int.emod_eq_of_lt (by omega) (by omega)]
    unfold sumL; rw [← ha]; rfl
theorem rmany_ok (b : Int) (h : Heap) (hb : 1 ≤ b ∧ b ≤ 64) : CallsH Tryz.prog 104 [.int .i64 b] h fun v h' => v = .int .i64 (manyN b : Int) ∧ h' = h := by
  refine fun_ok Geo.hm' Tryz.func104 (by kernel_rfl) (F104_eq _ _ h) ?_
  unfold F104
  refine call_of (R2.tab_ok b h (by omega) (by omega)) ?_
  rintro v h' ⟨rfl, hh⟩; subst h'
  refine ⟨((b + 3) / 4 : Int), rfl, ?_, rfl⟩
  rw [wr64 (n := (7 : Int) + (b + 3) / 4) (by omega) (by omega), wr64 (n := 4 * ((7 : Int) + (b + 3) / 4)) (by omega) (by omega), wr64 (n := 4 * ((7 : Int) + (b + 3) / 4) + 15) (by omega) (by omega), Int.tdiv_eq_ediv_of_nonneg (by omega), wr64 (by omega) (by omega)]
  unfold manyN lenN tabN
  congr 1; omega
theorem rfour_ok (n : Int) (hn : U32 n) (h : Heap) : CallsH Tryz.prog 84 [.int .u32 n] h fun v h' => ∃ a, v = .slice a 4 4 ∧ Ar .u8 h' a (four n) ∧ New h h' := by
  obtain ⟨hn0, hn1⟩ := hn
  refine fun_ok Geo.hm' Tryz.func84 (by kernel_rfl) (F84_eq _ _ h) ?_
  unfold F84
  have tm : Int.tmod n 256 = n % 256 := Int.tmod_eq_emod_of_nonneg hn0
  have td : ∀ k, Int.tdiv n k = n / k := fun k => Int.tdiv_eq_ediv_of_nonneg hn0
  have e0 : IntKind.wrap .u8 (Int.tmod n 256) = n % 256 := by rw [wru8, tm]; omega
  have e1 : IntKind.wrap .u8 (Int.tmod (IntKind.wrap .u32 (Int.tdiv n 256)) 256) = n / 256 % 256 := by rw [wru8, wru32, td, Int.tmod_eq_emod_of_nonneg (by omega)]; omega
  have e2 : IntKind.wrap .u8 (Int.tmod (IntKind.wrap .u32 (Int.tdiv n 65536)) 256) = n / 65536 % 256 := by rw [wru8, wru32, td, Int.tmod_eq_emod_of_nonneg (by omega)]; omega
  have e3 : IntKind.wrap .u8 (IntKind.wrap .u32 (Int.tdiv n 16777216)) = n / 16777216 % 256 := by rw [wru8, wru32, td]; omega
  rw [e0, e1, e2, e3]
  exact new_of fun h1 b1 n1 s1 => ⟨_, rfl, Ar.blk (xs := four n) b1, n1⟩
theorem rback_ok (a : Option Addr) (c : Nat) (xs : List Int) (at_ : Nat) (h : Heap) (s : Sl8 h a c xs) (hl : 4 * at_ + 4 ≤ xs.length) (hx : xs.length ≤ 100000) :
    CallsH Tryz.prog 103 [.slice a xs.length c, .int .i64 (at_ : Int)] h fun v h' => v = .int .u32 (wordAt xs (4 * at_)) ∧ h' = h := by
  refine fun_ok Geo.hm' Tryz.func103 (by kernel_rfl) (F103_eq _ _ _ _ _ h) ?_
  unfold F103
  have e0 : IntKind.wrap .i64 ((4 : Int) * (at_ : Int)) = ((4 * at_ : Nat) : Int) := by rw [wr64 (by omega) (by omega)]; omega
  rw [e0]
  have e1 : ∀ k : Nat, k ≤ 3 → IntKind.wrap .i64 (((4 * at_ : Nat) : Int) + (k : Int)) = ((4 * at_ + k : Nat) : Int) := fun k hk => by rw [wr64 (by omega) (by omega)]; omega
  have f1 : IntKind.wrap .i64 (((4 * at_ : Nat) : Int) + 1) = ((4 * at_ + 1 : Nat) : Int) := e1 1 (by omega)
  have f2 : IntKind.wrap .i64 (((4 * at_ : Nat) : Int) + 2) = ((4 * at_ + 2 : Nat) : Int) := e1 2 (by omega)
  have f3 : IntKind.wrap .i64 (((4 * at_ : Nat) : Int) + 3) = ((4 * at_ + 3 : Nat) : Int) := e1 3 (by omega)
  rw [f1, f2, f3]
  have q0 := s.byt.get (4 * at_); have q1 := s.byt.get (4 * at_ + 1); have q2 := s.byt.get (4 * at_ + 2); have q3 := s.byt.get (4 * at_ + 3)
  refine s.at_ (4 * at_) rfl (by omega) (by omega) (s.at_ (4 * at_ + 1) rfl (by omega) (by omega) (s.at_ (4 * at_ + 2) rfl (by omega) (by omega) (s.at_ (4 * at_ + 3) rfl (by omega) (by omega) ⟨?_, rfl⟩)))
  simp only [wru32, wordAt, back4]
  congr 1; omega
theorem rback_q (a : Option Addr) (c : Nat) (xs : List Int) (at_ : Nat) (h : Heap) (s : Sl8 h a c xs) (hl : 4 * at_ + 4 ≤ xs.length) (hx : xs.length ≤ 100000) {F : Int → Prop} (hF : F (wordAt xs (4 * at_))) : callQ Tryz.prog 103 [.slice a xs.length c, .int .i64 (at_ : Int)] [.sc (.int .u32)] F h :=
  ⟨wordAt xs (4 * at_), fun h' e => rback_ok a c xs at_ h' (s.new e.new) hl hx, hF⟩
theorem own_ne {h : Heap} {base base' n c m d : Nat} {e e' : TypeId} {a b : Option Addr} {xs ys : List Value} (o : OwnH h base e 1 a n c xs) (p : OwnH h base' e' 1 b m d ys) (hne : e ≠ e') : ∀ g, blkOf a = some g → blkOf b ≠ some g := by
  intro g ha hb
  rcases o.2 with ⟨e1, _⟩ | ⟨g1, _, cur1, e1, _, hg1, _⟩
  · injection e1 with e1; rw [e1] at ha; cases ha
  rcases p.2 with ⟨e2, _⟩ | ⟨g2, _, cur2, e2, _, hg2, _⟩
  · injection e2 with e2; rw [e2] at hb; cases hb
  injection e1 with e1; injection e2 with e2
  subst e1; subst e2
  injection ha with ha; injection hb with hb
  change g1 = g at ha; change g2 = g at hb
  subst ha; subst hb
  have h3 : h[g2]? = some (.cells cur1 e) := hg1
  have h4 : h[g2]? = some (.cells cur2 e') := hg2
  rw [h3] at h4
  injection h4 with h4; injection h4 with _ h4; exact hne h4
theorem own_upd {h h' : Heap} {base n c : Nat} {e : TypeId} {a : Option Addr} {r : Option Nat} {xs : List Value} (o : OwnH h base e 1 a n c xs) (u : UpdO r h h') (hn : ∀ g, blkOf a = some g → r ≠ some g) : OwnH h' base e 1 a n c xs := o.keep fun g _ _ hb hg => u.same g hb.lt fun e => hn g hg e.symm
/-- Rows of bytes in an own row: all new since a base. -/
def Outs (h : Heap) (base : Nat) (a : Option Addr) (c : Nat) (l : List (List Int)) : Prop :=
  ∃ vs : List Value, OwnH h base 68 1 a l.length c vs ∧ ∀ (j : Nat) (bs : List Int), l[j]? = some bs → Byt bs ∧ ∃ a' c', vs[j]? = some (.slice a' bs.length c') ∧ OwnH h base 5 1 a' bs.length c' (bs.map (Value.int .u8))
theorem Outs.rb {h : Heap} {base : Nat} {a : Option Addr} {c : Nat} {l : List (List Int)} (r : Outs h base a c l) : RB h a l := fun i bs hi => by
  obtain ⟨vs, o, hr⟩ := r
  obtain ⟨hB, a', c', e, ow⟩ := hr i bs hi
  obtain ⟨g, e1, _, hc⟩ := o.cell e
  exact ⟨g, 0, a', c', e1, (o.blk_ge g (by rw [e1]; rfl)).2, by rw [Nat.zero_add]; exact hc, own_sl ow hB⟩
theorem Outs.new {h h' : Heap} {base : Nat} {a : Option Addr} {c : Nat} {l : List (List Int)} (r : Outs h base a c l) (n : New h h') : Outs h' base a c l := by
  obtain ⟨vs, o, hr⟩ := r
  exact ⟨vs, o.grow n, fun j bs hj => by
    obtain ⟨hB, a', c', e, ow⟩ := hr j bs hj
    exact ⟨hB, a', c', e, ow.grow n⟩⟩
theorem Outs.push {h : Heap} {base : Nat} {a : Option Addr} {c : Nat} {l : List (List Int)} (r : Outs h base a c l) {bs : List Int} {a1 : Option Addr} {c1 : Nat} (hB : Byt bs) (ow : OwnH h base 5 1 a1 bs.length c1 (bs.map (Value.int .u8))) (hl : l.length ≤ 1000) (hb : base ≤ h.size)
    {F : Option Addr → Nat → Nat → Heap → Prop} (hF : ∀ a' c' h', Outs h' base a' c' (l ++ [bs]) → UpdO (blkOf a) h h' → (∀ g, blkOf a = some g → base ≤ g) → F a' (l.length + 1) c' h') {p : Addr} (hp : cellH h p = some (.slice a1 bs.length c1)) (hpp : p.add 0 = p) :
    apW Tryz.prog #[67, 67] #[.slice a l.length c, .slice (some p) 1 1] F h := by
  obtain ⟨vs, o, hr⟩ := r
  have hvl : vs.length = l.length := by have := o.1; omega
  refine ap_own ap88 (by decide) o [.slice a1 bs.length c1] rfl (fun q u hu => ?_) (fun u hu => by rw [List.mem_singleton.1 hu]; rfl) (by simp only [maxLen]; omega) (by omega) hb fun a' c' h' o' u' => hF a' c' h' ⟨vs ++ [.slice a1 bs.length c1], by rw [List.length_append]; exact o', fun j ys hj => ?_⟩ u' fun g hg => (o.blk_ge g hg).1
  · have hq' : q = 0 := by have := (List.getElem?_eq_some_iff.1 hu).1; simp at this; omega
    subst hq'
    rw [hpp, hp]; exact hu
  · by_cases hjl : j < l.length
    · rw [List.getElem?_append_left hjl] at hj
      obtain ⟨hB2, a2, c2, e2, ow2⟩ := hr j ys hj
      exact ⟨hB2, a2, c2, by rw [List.getElem?_append_left (by omega)]; exact e2, own_upd ow2 u' fun g hg e => own_ne o ow2 (by decide) g e hg⟩
    · rw [List.getElem?_append_right (by omega)] at hj
      have : j - l.length = 0 := by have := (List.getElem?_eq_some_iff.1 hj).1; simp at this; omega
      rw [this] at hj
      injection hj with hj; subst hj
      have : j = l.length := by omega
      subst this
      exact ⟨hB, a1, c1, by rw [← hvl]; simp, own_upd ow u' fun g hg e => own_ne o ow (by decide) g e hg⟩
theorem Outs.low {h : Heap} {base m : Nat} {a : Option Addr} {c : Nat} {l : List (List Int)} (r : Outs h base a c l) (hm : m ≤ base) : Outs h m a c l := by
  obtain ⟨vs, o, hr⟩ := r
  exact ⟨vs, o.low hm, fun j bs hj => by
    obtain ⟨hB, a', c', e, ow⟩ := hr j bs hj
    exact ⟨hB, a', c', e, ow.low hm⟩⟩
theorem Outs.nil (h : Heap) (base : Nat) : Outs h base none 0 [] := ⟨[], OwnH.nil _ _ _ _, fun j bs hj => by simp at hj⟩
theorem Outs.fr {S : Nat × Nat → Prop} {t t' : Tags} {h h' : Heap} {base : Nat} {a : Option Addr} {c : Nat} {l : List (List Int)} (r : Outs h base a c l) (s : Fr S t h t' h') (hS : ∀ b, base ≤ b → b < h.size → S (t b)) : Outs h' base a c l := by
  obtain ⟨vs, o, hr⟩ := r
  exact ⟨vs, o.keep fun g _ hg hb _ => s.same g hb.lt (hS g hg hb.lt), fun j bs hj => by
    obtain ⟨hB, a', c', e, ow⟩ := hr j bs hj
    exact ⟨hB, a', c', e, ow.keep fun g _ hg hb _ => s.same g hb.lt (hS g hg hb.lt)⟩⟩
theorem full_code (c : Chk) : 0 < (fullC c).length := by rw [full_len]; omega
theorem rblocks_ok (c : Chk) (o : ChkOk c) (da : Option Addr) (dc : Nat) (h : Heap) (hd : Ar .u32 h da c.dir) :
    CallsH Tryz.prog 40 [chkV c da dc] h fun v h' => ∃ la lc, v = .tuple #[.slice la (blocksC c).1.length lc, .int .i64 (blocksC c).2] ∧ Outs h' h.size la lc (blocksC c).1 ∧ New h h' := by
  refine fun_ok Geo.hm' Tryz.func40 (by kernel_rfl) (F40_eq _ _ _ _ _ _ _ _ _ _ h) ?_
  unfold F40
  refine new_of fun h1 b1 n1 s1 => ldChk b1 (call_of (rright6_ok c da dc h1) ?_)
  have b1 : Blk h1 h.size (chkA c da dc) 46 := b1
  rintro v h2 ⟨rfl, n2⟩
  have n02 := n1.trans n2
  refine ⟨rightC c, rfl, br_of (fun hr => ?_) fun hr => ?_⟩
  · have hr : rightC c = false := by simpa using hr
    have e : blocksC c = ([], 1) := by unfold blocksC; rw [if_pos hr]
    rw [e]
    exact ⟨none, 0, rfl, Outs.nil _ _, n02⟩
  have hr : rightC c = true := by simpa using hr
  obtain ⟨_, hz, hp, hb, hdl⟩ := right_c hr
  have ht : tabN c.b ≤ 16 ∧ 1 ≤ tabN c.b := by unfold tabN; omega
  have hm : manyN c.b ≤ 100 := by unfold manyN lenN; omega
  have hnl : (numsC c).length = 6 + tabN c.b := by unfold numsC; simp; omega
  have hfl : (fullC c).length = 28 + 4 * tabN c.b := by rw [full_len, hdl]
  have hmf : manyN c.b * 16 < (fullC c).length + 16 ∧ (fullC c).length ≤ manyN c.b * 16 := by rw [hfl]; unfold manyN lenN; omega
  have eb : blocksC c = (chunks (manyN c.b) (bytesC c), 0) := by unfold blocksC; rw [if_neg (by rw [hr]; simp)]
  have hlen := bytes_len hr
  have b2 := b1.new n2
  refine ld_of (c := .int .u32) c.num (by rw [add_mk, cellH_blk b2]; rfl) (ld_of (c := .int .u32) c.ses (by rw [add_mk, cellH_blk b2]; rfl) (ld_of (c := .int .u32) c.seq (by rw [add_mk, cellH_blk b2]; rfl) (ld_of (c := .int .i64) c.z (by rw [add_mk, add_mk, cellH_blk b2]; rfl) (ld_of (c := .int .i64) c.p (by rw [add_mk, add_mk, cellH_blk b2]; rfl) (ld_of (c := .int .i64) c.b (by rw [add_mk, add_mk, cellH_blk b2]; rfl) ?_)))))
  have w : ∀ x : Int, 0 ≤ x ∧ x ≤ 100 → IntKind.wrap .u32 x = x := fun x hx => by rw [wru32]; omega
  rw [w c.z (by omega), w c.p (by omega), w c.b (by omega)]
  refine new_of fun h3 b3 n3 s3 => ld_of (c := .slice) (da, c.dir.length, dc) (by rw [add_mk, cellH_blk (b2.new n3)]; rfl) ?_
  have n03 := n02.trans n3
  have o3 : OwnH h3 h.size 35 1 (some ⟨h2.size, 0, none⟩) 6 6 (([c.num, c.ses, c.seq, c.z, c.p, c.b] : List Int).map (Value.int .u32)) := OwnH.of_blk (base := h.size) b3 n02.size rfl (by simp [maxLen])
  refine ap_ints ap32 o3 (hd.new n03) rfl (fun e => by
    subst e
    cases hx : c.dir with
    | nil => rfl
    | cons y ys =>
      obtain ⟨_, _, e, _⟩ := hd 0 y (by rw [hx]; rfl)
      cases e) (show 6 + c.dir.length ≤ 1000000 by omega) (by decide) n03.size fun a4 c4 h4 o4 u4 => ?_
  have n04 : New h h4 := u4.grow n03 fun g hg => (o3.blk_ge g hg).1
  have ar4 : Ar .u32 h4 a4 (numsC c) := Ar.own o4
  have en : ([c.num, c.ses, c.seq, c.z, c.p, c.b] ++ c.dir).length = (numsC c).length := rfl
  rw [en]
  refine new_of fun h5 b5 n5 s5 => ?_
  have n05 := n04.trans n5
  have o5 : OwnH h5 h4.size 5 1 (some ⟨h4.size, 0, none⟩) 0 0 (([] : List Int).map (Value.int .u8)) := OwnH.of_blk (base := h4.size) b5 (Nat.le_refl _) rfl (Nat.zero_le _)
  refine ⟨fun (s : (Option Addr × Nat × Nat) × Int) h' => ∃ i : Nat, s.2 = i ∧ i ≤ (numsC c).length ∧ s.1.2.1 = (fours ((numsC c).take i)).length ∧ OwnH h' h4.size 5 1 s.1.1 (fours ((numsC c).take i)).length s.1.2.2 ((fours ((numsC c).take i)).map (Value.int .u8)) ∧ New h4 h', fun (s : (Option Addr × Nat × Nat) × Int) _ => (((numsC c).length : Int) - s.2).toNat, ⟨0, rfl, Nat.zero_le _, rfl, o5, n5⟩, ?_⟩
  rintro ⟨⟨oa, on, oc⟩, s⟩ j h6 ⟨i, hs, hi, hon, o6, n6⟩
  have hs : s = (i : Int) := hs
  have hon : on = (fours ((numsC c).take i)).length := hon
  have o6' : OwnH h6 h4.size 5 1 oa (fours ((numsC c).take i)).length oc ((fours ((numsC c).take i)).map (Value.int .u8)) := o6
  subst hs; subst hon
  have hf4 : (fours ((numsC c).take i)).length ≤ 1000 := by rw [fours_len, List.length_take]; omega
  refine br_of (fun hlt => ?_) (fun hlt => ?_)
  · have hlt : (i : Int) < ((numsC c).length : Int) := of_decide_eq_true hlt
    have hiL : i < (numsC c).length := by omega
    have ez : IntKind.wrap .i64 ((i : Int) + 1) = ((i + 1 : Nat) : Int) := (by first | (rw [wr64 (by omega) (by omega)]; omega) | (simp only [IntKind.wrap_i64]; omega))
    refine ix_ld (ar4.new n6) hiL hiL (call_of (rfour_ok (numsC c)[i] (nums_u32 o hr _ (List.getElem_mem hiL)) h6) ?_)
    rintro v h7 ⟨a7, rfl, ar7, n7⟩
    refine ⟨(a7, 4, 4), rfl, ?_⟩
    have hsl : Ar .u8 h7 a7 (four (numsC c)[i]) := ar7
    have e1 : fours ((numsC c).take (i + 1)) = fours ((numsC c).take i) ++ four (numsC c)[i] := by rw [← List.take_append_getElem hiL, fours_app, fours_one]
    refine ap_ints ap8' (o6'.grow n7) ar7 (four_len _).symm (fun e => by
      subst e
      obtain ⟨_, _, e, _⟩ := ar7 0 _ rfl
      cases e) (show (fours ((numsC c).take i)).length + 4 ≤ 1000000 by omega) (by decide) (n6.trans n7).size fun a8 c8 h8 o8 u8 => ?_
    rw [← e1] at o8
    have n8 : New h4 h8 := u8.grow (n6.trans n7) fun g hg => (o6'.blk_ge g hg).1
    simp only [ez, ← e1]
    exact ⟨⟨i + 1, rfl, hiL, rfl, o8, n8⟩, (by first | omega | (dsimp only; omega) | (simp only []; omega))⟩
  have hlt : ¬ (i : Int) < ((numsC c).length : Int) := of_decide_eq_false hlt
  have : i = (numsC c).length := by omega
  subst this
  rw [List.take_length] at o6' hf4 ⊢
  have hBy := fours_byt (numsC c)
  refine call_of (rof_ok oa oc (fours (numsC c)) _ rfl h6 (by omega) hBy (Ar.own o6')) ?_
  rintro v h' ⟨rfl, hh⟩; subst h'
  refine ⟨sumL (fours (numsC c)), rfl, call_of (rfour_ok _ (sumL_range _) h6) ?_⟩
  rintro v h7 ⟨a7, rfl, ar7, n7⟩
  refine ⟨(a7, 4, 4), rfl, ?_⟩
  refine ap_ints ap8' (o6'.grow n7) ar7 (four_len _).symm (fun e => by
    subst e
    obtain ⟨_, _, e, _⟩ := ar7 0 _ rfl
    cases e) (show (fours (numsC c)).length + 4 ≤ 1000000 by omega) (by decide) (n6.trans n7).size fun a8 c8 h8 o8 u8 => ?_
  have n8 : New h4 h8 := u8.grow (n6.trans n7) fun g hg => (o6'.blk_ge g hg).1
  have hfu : fours (numsC c) ++ four (sumL (fours (numsC c))) = fullC c := rfl
  rw [hfu] at o8 ⊢
  have hzl : ∀ k, (fullC c ++ List.replicate k (0 : Int)).length = (fullC c).length + k := fun k => by simp
  refine ⟨fun (s : Option Addr × Nat × Nat) h' => ∃ k : Nat, s.2.1 = (fullC c).length + k ∧ (fullC c).length + k ≤ manyN c.b * 16 ∧ OwnH h' h4.size 5 1 s.1 ((fullC c).length + k) s.2.2 ((fullC c ++ List.replicate k 0).map (Value.int .u8)) ∧ New h4 h', fun (s : Option Addr × Nat × Nat) _ => manyN c.b * 16 - s.2.1, ⟨0, rfl, by omega, by simpa using o8, n8⟩, ?_⟩
  rintro ⟨ka, kn, kc⟩ j h9 ⟨k, hkn, hkm, o9, n9⟩
  have hkn : kn = (fullC c).length + k := hkn
  subst hkn
  have o9 : OwnH h9 h4.size 5 1 ka ((fullC c).length + k) kc ((fullC c ++ List.replicate k 0).map (Value.int .u8)) := o9
  have em : Int.tmod (((fullC c).length + k : Nat) : Int) 16 = ((((fullC c).length + k) % 16 : Nat) : Int) := tmod_nat
  simp only [em]
  refine br_of (fun hne => ?_) fun heq => ?_
  · have hne : ((((fullC c).length + k) % 16 : Nat) : Int) ≠ 0 := by simpa using hne
    have o9' := o9
    refine pushA ap8' o9' (by omega) (by decide) n9.size fun a' c' h10 o10 ab10 => ?_
    have n10 : New h4 h10 := ⟨Nat.le_trans n9.size ab10.size, fun b hb => (ab10.same b hb (by have := n9.size; omega)).trans (n9.same b hb)⟩
    have er : fullC c ++ List.replicate k (0 : Int) ++ [0] = fullC c ++ List.replicate (k + 1) 0 := by rw [List.replicate_succ', List.append_assoc]
    rw [er] at o10
    exact ⟨⟨k + 1, rfl, by omega, o10, n10⟩, (by first | omega | (dsimp only; omega) | (simp only []; omega))⟩
  have heq : ((((fullC c).length + k) % 16 : Nat) : Int) = 0 := by simpa using heq
  have hk : (fullC c).length + k = manyN c.b * 16 := by omega
  have hbc : fullC c ++ List.replicate k (0 : Int) = bytesC c := by unfold bytesC; congr 2; omega
  rw [hbc] at o9
  have hkl : (fullC c).length + k = (bytesC c).length := by rw [← hbc, hzl]
  rw [hkl] at o9 ⊢
  refine new_of fun h10 b10 n10 s10 => ?_
  have hB := bytes_byt c
  have n410 := n9.trans n10
  have hos : Outs h10 h9.size (some ⟨h9.size, 0, none⟩) 0 [] := ⟨[], OwnH.of_blk (base := h9.size) b10 (Nat.le_refl _) rfl (Nat.zero_le _), fun j bs hj => by simp at hj⟩
  have sB := own_sl o9 hB
  have hcap := sB.le
  refine ⟨fun (s : (Option Addr × Nat × Nat) × Int) h' => ∃ i : Nat, s.2 = ((16 * i : Nat) : Int) ∧ i ≤ manyN c.b ∧ s.1.2.1 = i ∧ Outs h' h9.size s.1.1 s.1.2.2 ((chunks (manyN c.b) (bytesC c)).take i) ∧ New h9 h', fun (s : (Option Addr × Nat × Nat) × Int) _ => (((bytesC c).length : Int) - s.2).toNat, ⟨0, rfl, Nat.zero_le _, rfl, hos, n10⟩, ?_⟩
  rintro ⟨⟨la, ln, lc⟩, s⟩ j h11 ⟨i, hs, hi, hln, os, n11⟩
  have hs : s = ((16 * i : Nat) : Int) := hs
  have hln2 : ln = i := hln
  have os2 : Outs h11 h9.size la lc ((chunks (manyN c.b) (bytesC c)).take i) := os
  clear hln os
  subst hs; subst hln2
  have os := os2
  have htl : ((chunks (manyN c.b) (bytesC c)).take ln).length = ln := by rw [List.length_take, chunks_len]; omega
  refine br_of (fun hlt => ?_) (fun hlt => ?_)
  · have hlt : ((16 * ln : Nat) : Int) < ((bytesC c).length : Int) := of_decide_eq_true hlt
    have hiL : ln < manyN c.b := by omega
    have ez : IntKind.wrap .i64 (((16 * ln : Nat) : Int) + 16) = ((16 * (ln + 1) : Nat) : Int) := by rw [wr64 (by omega) (by omega)]; omega
    refine new_of fun h12 b12 n12 s12 => ?_
    rw [ez]
    refine (sB.new (n11.trans n12)).sl (16 * ln) (16 * (ln + 1)) kc rfl rfl rfl (by omega) (by omega) (by omega) (Nat.le_refl _) fun pb pd sp => ?_
    rw [show 16 * (ln + 1) - 16 * ln = 16 by omega] at sp ⊢
    generalize hbs : ((bytesC c).drop (16 * ln)).take 16 = bs at sp
    have hbl : bs.length = 16 := by rw [← hbs, List.length_take, List.length_drop]; omega
    have o12 : OwnH h12 h9.size 5 1 (some ⟨h11.size, 0, none⟩) 0 0 (([] : List Int).map (Value.int .u8)) := OwnH.of_blk (base := h9.size) b12 n11.size rfl (Nat.zero_le _)
    refine ap_ints ap8' o12 sp.ar hbl.symm (fun e => by have := sp.nil e; have := sp.le; omega) (by omega) (by decide) (n11.trans n12).size fun a13 c13 h13 o13 u13 => ?_
    rw [List.nil_append] at o13
    have n13 : New h11 h13 := u13.grow n12 fun g hg => by injection hg with hg; change h11.size = g at hg; omega
    rw [List.nil_append]
    refine new_of fun h14 b14 n14 s14 => ?_
    have n1114 := n13.trans n14
    have os14 := os.new n1114
    have hpush := os14.push sp.byt (o13.grow n14) (by rw [htl]; omega) (by have := n11.size; have := n1114.size; omega) (p := ⟨h13.size, 0, none⟩) (F := fun b n c' h68 => (∃ i : Nat, ((16 * (ln + 1) : Nat) : Int) = ((16 * i : Nat) : Int) ∧ i ≤ manyN c.b ∧ n = i ∧ Outs h68 h9.size b c' ((chunks (manyN c.b) (bytesC c)).take i) ∧ New h9 h68) ∧ (((bytesC c).length : Int) - ((16 * (ln + 1) : Nat) : Int)).toNat < (((bytesC c).length : Int) - ((16 * ln : Nat) : Int)).toNat) (fun a' c' h15 os15 u15 hge => ?_) (by rw [cellH_blk b14]; rfl) (by rw [add_mk])
    · rw [htl] at hpush
      exact hpush
    · have e1 : (chunks (manyN c.b) (bytesC c)).take (ln + 1) = (chunks (manyN c.b) (bytesC c)).take ln ++ [bs] := by
        rw [List.take_add_one, chunks_get hiL, hbs]; rfl
      rw [← e1] at os15
      exact ⟨⟨ln + 1, rfl, hiL, by rw [htl], os15, u15.grow (n11.trans n1114) hge⟩, by omega⟩
  · have hlt : ¬ ((16 * ln : Nat) : Int) < ((bytesC c).length : Int) := of_decide_eq_false hlt
    have : ln = manyN c.b := by omega
    subst this
    have e1 : (chunks (manyN c.b) (bytesC c)).take (manyN c.b) = chunks (manyN c.b) (bytesC c) := List.take_of_length_le (by rw [chunks_len]; omega)
    rw [e1] at os
    rw [eb]
    exact ⟨la, lc, by rw [chunks_len], os.low (n04.trans n9).size, (n04.trans n9).trans n11⟩
end Go.Proofs.YthimfpkkdhpceaaGreatDoor.Ck
/-
  The reference of ckpt: Read, Numbers, Same.
-/
namespace Go.Proofs.YthimfpkkdhpceaaGreatDoor.Ck
open Go.Pl Go.Proofs.YthimfpkkdhpceaaGreatDoor.W Go.Proofs.YthimfpkkdhpceaaGreatDoor.Byts Go.Proofs.YthimfpkkdhpceaaGreatDoor.Four Go.Proofs.YthimfpkkdhpceaaGreatDoor.Adl Go.Proofs.YthimfpkkdhpceaaGreatDoor.Head Go.Proofs.YthimfpkkdhpceaaGreatDoor.Geo Go.Proofs.YthimfpkkdhpceaaGreatDoor.Rng Go.Proofs.YthimfpkkdhpceaaGreatDoor.As
theorem zeroR6 : zeroC Tryz.prog 46 = chkA ck0 none 0 := by kernel_rfl
theorem zeroG6 : (zeroC Tryz.prog 44).size = 3 := by kernel_rfl
def RReadP (l : List (List Int)) (h : Heap) (v : Value) (h' : Heap) : Prop := ∃ da dc, v = .tuple #[chkV (readC l).1 da dc, .int .i64 (readC l).2] ∧ OwnH h' h.size 35 1 da (readC l).1.dir.length dc ((readC l).1.dir.map (Value.int .u32)) ∧ New h h'
theorem rread_ok (a : Option Addr) (c : Nat) (l : List (List Int)) (h : Heap) (r : RB h a l) (hl : l.length ≤ 1000) :
    CallsH Tryz.prog 56 [.slice a l.length c] h (RReadP l h) := by
  refine fun_ok Geo.hm' Tryz.func56 (by kernel_rfl) (F56_eq _ _ _ _ h) ?_
  unfold F56
  refine new_of fun h1 b1 n1 s1 => ?_
  rw [zeroR6] at b1
  have err : ∀ (hx : Heap) (e : Int), readC l = (ck0, e) → New h1 hx → ∀ h', Only h.size hx h' → RReadP l h (Value.tuple #[chkV ck0 none 0, .int .i64 e]) h' := by
    intro hx e hr n h' o
    unfold RReadP
    rw [hr]
    refine ⟨none, 0, rfl, OwnH.nil _ _ _ _, ⟨?_, fun b hb => ?_⟩⟩
    · rw [o.size]; exact Nat.le_trans n1.size n.size
    · rw [o.same b (by omega), n.same b (by omega), n1.same b hb]
  refine new_of fun h2 b2 n2 s2 => ?_
  have o2 : OwnH h2 h1.size 5 1 (some ⟨h1.size, 0, none⟩) 0 0 (([] : List Int).map (Value.int .u8)) := OwnH.of_blk (base := h1.size) b2 (Nat.le_refl _) rfl (Nat.zero_le _)
  refine ⟨fun (s : (Option Addr × Nat × Nat) × Int) h' => ∃ i : Nat, s.2 = i ∧ i ≤ l.length ∧ s.1.2.1 = (l.take i).flatten.length ∧ (∀ b ∈ l.take i, b.length = 16) ∧ OwnH h' h1.size 5 1 s.1.1 (l.take i).flatten.length s.1.2.2 ((l.take i).flatten.map (Value.int .u8)) ∧ New h1 h', fun (s : (Option Addr × Nat × Nat) × Int) _ => ((l.length : Int) - s.2).toNat, ⟨0, rfl, Nat.zero_le _, rfl, by simp, o2, n2⟩, ?_⟩
  rintro ⟨⟨oa, on, oc⟩, s⟩ j h3 ⟨i, hs, hi, hon, h16, o3, n3⟩
  have hs2 : s = (i : Int) := hs
  have hon2 : on = (l.take i).flatten.length := hon
  have o3' : OwnH h3 h1.size 5 1 oa (l.take i).flatten.length oc ((l.take i).flatten.map (Value.int .u8)) := o3
  clear hs hon o3
  subst hs2; subst hon2
  have n03 := n1.trans n3
  have b3 := b1.new n3
  have hfl := flat_len _ h16
  rw [List.length_take] at hfl
  refine br_of (fun hlt => ?_) (fun hlt => ?_)
  · have hlt : (i : Int) < (l.length : Int) := of_decide_eq_true hlt
    have hiL : i < l.length := by omega
    refine (r.new n03).ld hiL hiL fun a' c' sa => br_of (fun hne => ?_) fun heq => (r.new n03).ld hiL hiL fun a' c' sa => ?_
    · have hne : ¬ l[i].length = 16 := by simp at hne; omega
      exact put_out (K := RReadP l h) (c := ck0) (da := none) (dc := 0) b3 rfl (err h3 3 (readC_3 (.inr (List.any_eq_true.2 ⟨_, List.getElem_mem hiL, decide_eq_true hne⟩))) n3)
    · have heq : l[i].length = 16 := by simp at heq; omega
      have ez : IntKind.wrap .i64 ((i : Int) + 1) = ((i + 1 : Nat) : Int) := (by first | (rw [wr64 (by omega) (by omega)]; omega) | (simp only [IntKind.wrap_i64]; omega))
      have e1 := flat_succ l i hiL
      refine ap_ints ap8' o3' sa.ar rfl (fun e => by have := sa.nil e; have := sa.le; omega) (show (l.take i).flatten.length + l[i].length ≤ 1000000 by omega) (by decide) n3.size fun a4 c4 h4 o4 u4 => ?_
      rw [← e1] at o4
      simp only [ez, ← e1]
      refine ⟨⟨i + 1, rfl, hiL, rfl, fun b hb => ?_, o4, u4.grow n3 fun g hg => (o3'.blk_ge g hg).1⟩, (by first | omega | (dsimp only; omega) | (simp only []; omega))⟩
      rw [← List.take_append_getElem hiL] at hb
      rcases List.mem_append.1 hb with hb | hb
      · exact h16 b hb
      · rw [List.mem_singleton.1 hb]; exact heq
  have hlt : ¬ (i : Int) < (l.length : Int) := of_decide_eq_false hlt
  have : i = l.length := by omega
  subst this
  rw [List.take_length] at h16 o3' ⊢
  refine br_of (fun h2l => ?_) fun h2l => ?_
  · have h2l : (l.length : Int) < 2 := of_decide_eq_true h2l
    exact put_out (K := RReadP l h) (c := ck0) (da := none) (dc := 0) b3 rfl (err h3 3 (readC_3 (.inl (by omega))) n3)
  have h2l : ¬ (l.length : Int) < 2 := of_decide_eq_false h2l
  have hflat := flat_len l h16
  have hByt := flat_byt r.byt
  have hrd : readC l = if rightB (wordAt l.flatten 12) (wordAt l.flatten 16) (wordAt l.flatten 20) = false then (ck0, 2)
      else if l.length ≠ manyN (wordAt l.flatten 20) then (ck0, 3)
      else if sumL (l.flatten.take (lenN (wordAt l.flatten 20))) ≠ wordAt l.flatten (lenN (wordAt l.flatten 20)) then (ck0, 4)
      else if (l.flatten.drop (lenN (wordAt l.flatten 20) + 4)).any (fun x => decide (x ≠ 0)) = true then (ck0, 2)
      else (chkOf l.flatten, 0) := by
    conv => lhs; unfold readC
    rw [if_neg]
    rintro (h | h)
    · omega
    · obtain ⟨b, hb, e⟩ := List.any_eq_true.1 h
      exact (of_decide_eq_true e) (h16 b hb)
  clear hfl
  generalize hBB : l.flatten = B at *
  have s3 := own_sl o3' hByt
  have num : ∀ (i : Nat) (hi : 4 * i + 4 ≤ B.length) (hx : Heap), New h3 hx → CallsH Tryz.prog 103 [.slice oa B.length oc, .int .i64 (i : Int)] hx fun v h' => v = .int .u32 (wordAt B (4 * i)) ∧ h' = hx := fun i hi hx n => rback_ok oa oc B i hx (s3.new n) hi (by omega)
  have numq : ∀ (i : Nat) (hi : 4 * i + 4 ≤ B.length) (hx : Heap), New h3 hx → ∀ F : Int → Prop, F (wordAt B (4 * i)) → callQ Tryz.prog 103 [.slice oa B.length oc, .int .i64 (i : Int)] [.sc (.int .u32)] F hx := fun i hi hx n F hF => rback_q oa oc B i hx (s3.new n) hi (by omega) hF
  refine call_of (num 3 (by omega) h3 (New.refl _)) ?_
  rintro v h' ⟨rfl, hh⟩; subst h'
  refine ⟨wordAt B 12, rfl, call_of (num 4 (by omega) h3 (New.refl _)) ?_⟩
  rintro v h' ⟨rfl, hh⟩; subst h'
  refine ⟨wordAt B 16, rfl, call_of (num 5 (by omega) h3 (New.refl _)) ?_⟩
  rintro v h' ⟨rfl, hh⟩; subst h'
  refine ⟨wordAt B 20, rfl, ?_⟩
  have wr : ∀ i, IntKind.wrap .i64 (wordAt B i) = wordAt B i := fun i => by have := wordAt_range hByt i; exact wr64 (by omega) (by omega)
  rw [wr, wr, wr]
  refine new_stL (by rw [zeroG6]; rfl) fun h4 b4 n4 s4 => ?_
  have b14 := b3.new n4
  have b4 : Blk h4 h3.size #[.int .i64 (wordAt B 12), .int .i64 (wordAt B 16), .int .i64 (wordAt B 20)] 44 := b4
  refine ldAgg_blk (wordAt B 12, wordAt B 16, wordAt B 20) b4 ⟨rfl, rfl, rfl, trivial⟩ (call_of (R2.rright_ok (wordAt B 12) (wordAt B 16) (wordAt B 20) h4) ?_)
  rintro v h5 ⟨rfl, n5⟩
  have n35 := n4.trans n5
  have n15 := n3.trans n35
  have b15 := b14.new n5
  have b5 := b4.new n5
  refine ⟨_, rfl, br_of (fun hr => ?_) fun hr => ?_⟩
  · have hr : rightB (wordAt B 12) (wordAt B 16) (wordAt B 20) = false := by simpa using hr
    exact put_out (K := RReadP l h) (c := ck0) (da := none) (dc := 0) b15 rfl (err h5 2 (by rw [hrd, if_pos hr]) n15)
  have hr : rightB (wordAt B 12) (wordAt B 16) (wordAt B 20) = true := by simpa using hr
  rw [if_neg (by rw [hr]; simp)] at hrd
  obtain ⟨_, _, hb1, hb2⟩ := right_facts hr
  refine ld_of (c := .int .i64) (wordAt B 20) (by rw [add_mk, cellH_blk b5]; rfl) (call_of (rmany_ok (wordAt B 20) h5 ⟨hb1, hb2⟩) ?_)
  rintro v h' ⟨rfl, hh⟩; subst h'
  refine ⟨(manyN (wordAt B 20) : Int), rfl, br_of (fun hm => ?_) fun hm => ?_⟩
  · have hm : l.length ≠ manyN (wordAt B 20) := fun e => by rw [e] at hm; simp at hm
    exact put_out (K := RReadP l h) (c := ck0) (da := none) (dc := 0) b15 rfl (err h5 3 (by rw [hrd, if_pos hm]) n15)
  have hm : l.length = manyN (wordAt B 20) := by simp at hm; omega
  rw [if_neg (fun h => h hm)] at hrd
  have hlN : lenN (wordAt B 20) + 4 ≤ B.length := by rw [hflat, hm]; unfold manyN; omega
  have hlt4 : lenN (wordAt B 20) = 4 * (6 + tabN (wordAt B 20)) := by unfold lenN; omega
  refine ld_of (c := .int .i64) (wordAt B 20) (by rw [add_mk, cellH_blk b5]; rfl) (call_of (R2.tab_ok (wordAt B 20) h5 (by omega) (by omega)) ?_)
  rintro v h' ⟨rfl, hh⟩; subst h'
  refine ⟨((wordAt B 20 + 3) / 4 : Int), rfl, ?_⟩
  have etab : ((wordAt B 20 + 3) / 4 : Int) = (tabN (wordAt B 20) : Int) := by unfold tabN; omega
  rw [etab]
  have ht : tabN (wordAt B 20) ≤ 16 := by unfold tabN; omega
  have e4 : IntKind.wrap .i64 ((4 : Int) * (tabN (wordAt B 20) : Int)) = 4 * (tabN (wordAt B 20) : Int) := wr64 (by omega) (by omega)
  have e5 : IntKind.wrap .i64 ((24 : Int) + 4 * (tabN (wordAt B 20) : Int)) = (lenN (wordAt B 20) : Int) := by rw [wr64 (by omega) (by omega), hlt4]; omega
  have e6 : IntKind.wrap .i64 ((6 : Int) + (tabN (wordAt B 20) : Int)) = ((6 + tabN (wordAt B 20) : Nat) : Int) := by rw [wr64 (by omega) (by omega)]; omega
  have e7 : IntKind.wrap .i64 ((28 : Int) + 4 * (tabN (wordAt B 20) : Int)) = ((lenN (wordAt B 20) + 4 : Nat) : Int) := by rw [wr64 (by omega) (by omega), hlt4]; omega
  rw [e4, e5, e6, e7]
  have s5 := s3.new n35
  have hc2 := s5.le
  refine s5.sl 0 (lenN (wordAt B 20)) oc rfl rfl rfl (by omega) (by omega) (by omega) (Nat.le_refl _) fun bb d sb => ?_
  rw [List.drop_zero, Nat.sub_zero] at sb
  have hsl : (B.take (lenN (wordAt B 20))).length = lenN (wordAt B 20) := by rw [List.length_take]; omega
  refine call_of (rof_ok bb d (B.take (lenN (wordAt B 20))) _ (by rw [hsl]; rfl) h5 (by omega) sb.byt sb.ar) ?_
  rintro v h' ⟨rfl, hh⟩; subst h'
  refine ⟨_, rfl, ?_⟩
  refine call_of (num (6 + tabN (wordAt B 20)) (by omega) h5 n35) ?_
  rintro v h' ⟨rfl, hh⟩; subst h'
  rw [← hlt4]
  refine ⟨_, rfl, ?_⟩
  refine br_of (fun hs => ?_) fun hs => ?_
  · have hs : sumL (B.take (lenN (wordAt B 20))) ≠ wordAt B (lenN (wordAt B 20)) := by simpa using hs
    exact put_out (K := RReadP l h) (c := ck0) (da := none) (dc := 0) b15 rfl (err h5 4 (by rw [hrd, if_pos hs]) n15)
  have hs : sumL (B.take (lenN (wordAt B 20))) = wordAt B (lenN (wordAt B 20)) := by simpa using hs
  rw [if_neg (fun h => h hs)] at hrd
  refine ⟨fun (s : Int) h' => h' = h5 ∧ ∃ i : Nat, s = ((lenN (wordAt B 20) + 4 + i : Nat) : Int) ∧ lenN (wordAt B 20) + 4 + i ≤ B.length ∧ ∀ x ∈ (B.drop (lenN (wordAt B 20) + 4)).take i, x = 0, fun (s : Int) _ => ((B.length : Int) - s).toNat, ⟨rfl, 0, rfl, hlN, by simp⟩, ?_⟩
  rintro s j h' ⟨hh, i, rfl, hi, hno⟩; subst h'
  refine br_of (fun hlt2 => ?_) (fun hlt2 => ?_)
  · have hlt2 : ((lenN (wordAt B 20) + 4 + i : Nat) : Int) < (B.length : Int) := of_decide_eq_true hlt2
    have hiL : lenN (wordAt B 20) + 4 + i < B.length := by omega
    have hid : (B.drop (lenN (wordAt B 20) + 4))[i]? = some B[lenN (wordAt B 20) + 4 + i] := by rw [List.getElem?_drop, List.getElem?_eq_getElem hiL]
    have ez : IntKind.wrap .i64 (((lenN (wordAt B 20) + 4 + i : Nat) : Int) + 1) = ((lenN (wordAt B 20) + 4 + (i + 1) : Nat) : Int) := by rw [wr64 (by omega) (by omega)]; omega
    refine ix_ld s5.ar hiL hiL (br_of (fun hne => ?_) fun heq => ?_)
    · have hne : B[lenN (wordAt B 20) + 4 + i] ≠ 0 := by simpa using hne
      exact put_out (K := RReadP l h) (c := ck0) (da := none) (dc := 0) b15 rfl (err h5 2 (by rw [hrd, if_pos (List.any_eq_true.2 ⟨_, List.mem_of_getElem? hid, decide_eq_true hne⟩)]) n15)
    · have heq : B[lenN (wordAt B 20) + 4 + i] = 0 := by simpa using heq
      rw [ez]
      refine ⟨⟨rfl, i + 1, rfl, by omega, fun x hx => ?_⟩, (by first | omega | (dsimp only; omega) | (simp only []; omega))⟩
      rw [List.take_add_one, hid] at hx
      rcases List.mem_append.1 hx with hx | hx
      · exact hno x hx
      · rw [List.mem_singleton.1 hx]; exact heq
  have hlt2 : ¬ ((lenN (wordAt B 20) + 4 + i : Nat) : Int) < (B.length : Int) := of_decide_eq_false hlt2
  rw [List.take_of_length_le (by rw [List.length_drop]; omega)] at hno
  have hz : (B.drop (lenN (wordAt B 20) + 4)).any (fun x => decide (x ≠ 0)) = false := List.any_eq_false.2 fun x hx => by simp [hno x hx]
  rw [if_neg (by rw [hz]; simp)] at hrd
  refine numq 0 (by omega) h5 n35 _ ?_
  refine numq 1 (by omega) h5 n35 _ ?_
  refine numq 2 (by omega) h5 n35 _ ?_
  refine ldAgg_blk (wordAt B 12, wordAt B 16, wordAt B 20) b5 ⟨rfl, rfl, rfl, trivial⟩ (new_stL (by rw [zeroR6]; rfl) fun h6 b6 n6 s6 => ?_)
  have b6 : Blk h6 h5.size (chkA (chkI B 0) none 0) 46 := b6
  have b16 := b15.new n6
  have n36 := n35.trans n6
  have hs36 := n36.size
  have hs13 := n3.size
  have hs35 := n35.size
  refine ⟨fun (s : Int) h' => ∃ i : Nat, s = i ∧ i ≤ tabN (wordAt B 20) ∧ Upd h5.size h6 h' ∧ ∃ da dc, Blk h' h5.size (chkA (chkI B i) da dc) 46 ∧ OwnH h' h6.size 35 1 da i dc ((chkI B i).dir.map (Value.int .u32)), fun (s : Int) _ => ((tabN (wordAt B 20) : Int) - s).toNat, ⟨0, rfl, Nat.zero_le _, Upd.refl _ _, none, 0, b6, OwnH.nil _ _ _ _⟩, ?_⟩
  rintro s j h7 ⟨i, rfl, hi, u7, da, dc, b7, o7⟩
  have N7 : New h3 h7 := ⟨Nat.le_trans hs36 u7.size, fun b hb => (u7.same b (by omega) (by omega)).trans (n36.same b hb)⟩
  refine br_of (fun hlt2 => ?_) (fun hlt2 => ?_)
  · have hlt2 : (i : Int) < (tabN (wordAt B 20) : Int) := of_decide_eq_true hlt2
    have e6 : IntKind.wrap .i64 (6 + (i : Int)) = ((6 + i : Nat) : Int) := by rw [wr64 (by omega) (by omega)]; omega
    have ez : IntKind.wrap .i64 ((i : Int) + 1) = ((i + 1 : Nat) : Int) := (by first | (rw [wr64 (by omega) (by omega)]; omega) | (simp only [IntKind.wrap_i64]; omega))
    rw [e6, ez]
    refine ld_of (c := .slice) (da, i, dc) (by rw [add_mk, cellH_blk b7]; exact cell6 B i da dc) ?_
    refine numq (6 + i) (by omega) h7 N7 _ ?_
    refine pushA ap32 o7 (by omega) (by decide) u7.size fun a' c' h8 o8 ab8 => ?_
    have b8 := b7.abo ab8 (by omega)
    rw [add_mk]
    refine st_blk b8 (by show 6 < 7; omega) fun h9 b9 on9 => ?_
    have ea : (chkA (chkI B i) da dc).setIfInBounds (0 + 6) (.slice a' (i + 1) c') = chkA (chkI B (i + 1)) a' c' := by
      unfold chkA
      rw [chkI_len B (i + 1)]
      rfl
    rw [ea] at b9
    have u9 : Upd h5.size h6 h9 := ⟨by rw [on9.size]; have := ab8.size; have := u7.size; omega, fun b hb hne => by rw [on9.same b hne, ab8.same b hb (by have := u7.size; omega), u7.same b hb hne]⟩
    refine ⟨⟨i + 1, rfl, by omega, u9, a', c', b9, ?_⟩, (by first | omega | (dsimp only; omega) | (simp only []; omega))⟩
    rw [chkI_dir]
    exact o8.keep fun g _ hg _ _ => on9.same g (by omega)
  · have hlt2 : ¬ (i : Int) < (tabN (wordAt B 20) : Int) := of_decide_eq_false hlt2
    have : i = tabN (wordAt B 20) := by omega
    subst this
    have b17 : Blk h7 h.size (chkA ck0 none 0) 46 := (u7.same h.size (by omega) (by omega)).trans b16
    refine ldChk b7 (put_out (K := RReadP l h) (c := chkI B (tabN (wordAt B 20))) (da := da) (dc := dc) b17 rfl fun h8 on8 => ?_)
    unfold RReadP
    rw [hrd]
    refine ⟨da, dc, rfl, ?_, ⟨?_, fun b hb => ?_⟩⟩
    · show OwnH h8 h.size 35 1 da (chkI B (tabN (wordAt B 20))).dir.length dc ((chkI B (tabN (wordAt B 20))).dir.map (Value.int .u32))
      rw [chkI_len]
      exact OwnH.low (base := h6.size) (o7.keep fun g _ hg _ _ => on8.same g (by omega)) (by omega)
    · rw [on8.size]; have := u7.size; omega
    · rw [on8.same b (by omega), N7.same b (by omega), n3.same b (by omega), n1.same b hb]
theorem rnumbers_ok (a b : Option Addr) (ca cb : Nat) (xs ys : List Int) (h : Heap) (hx : xs.length ≤ 1000000) (ra : Ar .u32 h a xs) (rb : Ar .u32 h b ys) :
    CallsH Tryz.prog 57 [.slice a xs.length ca, .slice b ys.length cb] h fun v h' => v = .bool (decide (xs = ys)) ∧ h' = h := by
  refine fun_ok Geo.hm' Tryz.func57 (by kernel_rfl) (F57_eq _ _ _ _ _ _ _ h) ?_
  unfold F57
  refine br_of (fun hne => ?_) (fun heq => ?_)
  · have : xs ≠ ys := fun e => by subst e; simp at hne
    exact ⟨by simp [this], rfl⟩
  have hl : xs.length = ys.length := by simp at heq; omega
  refine ⟨fun (s : Int) h' => h' = h ∧ ∃ i : Nat, s = i ∧ i ≤ xs.length ∧ xs.take i = ys.take i, fun (s : Int) _ => (xs.length - s).toNat, ⟨rfl, 0, rfl, by omega, rfl⟩, ?_⟩
  rintro s j h' ⟨hh, i, rfl, hi, hpre⟩
  subst h'
  refine br_of (fun hlt => ?_) (fun hlt => ?_)
  · have hlt : i < xs.length := by simp at hlt; omega
    refine ix_ld ra hlt hlt (ix_ld rb (by omega) (by omega) (br_of (fun hd => ?_) (fun hd => ?_)))
    · have hd : xs[i] ≠ ys[i] := by simpa using hd
      have : xs ≠ ys := fun e => by subst e; exact hd rfl
      exact ⟨by simp [this], by trivial⟩
    · have hd : xs[i] = ys[i] := by simpa using hd
      rw [wr64 (by omega) (by omega)]
      refine ⟨⟨by trivial, i + 1, by omega, by omega, ?_⟩, by dsimp only; omega⟩
      rw [List.take_add_one, List.take_add_one, hpre, List.getElem?_eq_getElem hlt, List.getElem?_eq_getElem (show i < ys.length by omega), hd]
  · have hlt : ¬ (i : Int) < (xs.length : Int) := of_decide_eq_false hlt
    have : i = xs.length := by omega
    subst this
    rw [List.take_length, List.take_of_length_le (by omega)] at hpre
    exact ⟨by simp [hpre], rfl⟩
theorem geo_eq6 (z p b z' p' b' : Int) : ∀ w, (Op.equal 44 (.agg #[.int .i64 z, .int .i64 p, .int .i64 b]) (.agg #[.int .i64 z', .int .i64 p', .int .i64 b'])).run Tryz.prog w = .ok (z == z' && (p == p' && b == b')) w := by
  intro w
  have hS : Tryz.prog.underlying 44 = some (.struct (Tryz.prog.fieldsOf 44)) := by kernel_rfl
  have hp : Tryz.prog.stoodInHeld 44 = false := by kernel_rfl
  have u3 := Tryz.underlying3
  have a3 := Tryz.isAgg3
  have z3 := Tryz.sizeOf3
  show ((Op.equalIn (9999 + 1) 44 _ _).run _ _) = _
  rw [run_equalIn_agg w 9999 44 _ _ hS hp]
  simp only [Program.fieldsOf, Tryz.underlying44]
  go_simp
  by_cases h1 : z = z' <;> by_cases h2 : p = p' <;> by_cases h3 : b = b' <;> simp [h1, h2, h3]
theorem rsame_ok (c d : Chk) (ca da : Option Addr) (cc dc : Nat) (h : Heap) (rc : Ar .u32 h ca c.dir) (rd : Ar .u32 h da d.dir) (hl : c.dir.length ≤ 1000) :
    CallsH Tryz.prog 19 [chkV c ca cc, chkV d da dc] h fun v h' => v = .bool (sameC c d) ∧ New h h' := by
  refine fun_ok Geo.hm' Tryz.func19 (by kernel_rfl) (F19_eq _ _ _ _ _ _ _ _ _ _ _ _ _ _ _ _ _ _ _ h) ?_
  unfold F19
  refine new_of fun h1 b1 n1 s1 => new_of fun h2 b2 n2 s2 => ?_
  have b1 := b1.new n2
  have n02 := n1.trans n2
  refine ld_of (c := .int .u32) c.num (by rw [add_mk, cellH_blk b1]; rfl) (ld_of (c := .int .u32) d.num (by rw [add_mk, cellH_blk b2]; rfl) (br_of (fun e1 => ?_) fun e1 => ⟨by unfold sameC; rw [e1]; rfl, n02⟩))
  refine ld_of (c := .int .u32) c.ses (by rw [add_mk, cellH_blk b1]; rfl) (ld_of (c := .int .u32) d.ses (by rw [add_mk, cellH_blk b2]; rfl) (br_of (fun e2 => ?_) fun e2 => ⟨by unfold sameC; rw [e1, e2]; rfl, n02⟩))
  refine ld_of (c := .int .u32) c.seq (by rw [add_mk, cellH_blk b1]; rfl) (ld_of (c := .int .u32) d.seq (by rw [add_mk, cellH_blk b2]; rfl) (br_of (fun e3 => ?_) fun e3 => ⟨by unfold sameC; rw [e1, e2, e3]; rfl, n02⟩))
  refine ldAgg_add (o := 0) (c.z, c.p, c.b) b1 ⟨rfl, rfl, rfl, trivial⟩ (ldAgg_add (o := 0) (d.z, d.p, d.b) b2 ⟨rfl, rfl, rfl, trivial⟩ ⟨_, geo_eq6 c.z c.p c.b d.z d.p d.b, br_of (fun e4 => ?_) fun e4 => ⟨by unfold sameC; rw [e1, e2, e3, e4]; rfl, n02⟩⟩)
  refine ld_of (c := .slice) (ca, c.dir.length, cc) (by rw [add_mk, cellH_blk b1]; rfl) (ld_of (c := .slice) (da, d.dir.length, dc) (by rw [add_mk, cellH_blk b2]; rfl) (call_of (rnumbers_ok ca da cc dc c.dir d.dir h2 (by omega) (rc.new n02) (rd.new n02)) ?_))
  rintro v h' ⟨rfl, hh⟩; subst h'
  exact ⟨_, rfl, by unfold sameC; rw [e1, e2, e3, e4]; rfl, n02⟩
end Go.Proofs.YthimfpkkdhpceaaGreatDoor.Ck
/-
  The formulas of the reference of head. Each formula checked by the kernel. Printed by a program of this repo.
-/
namespace Go.Proofs.YthimfpkkdhpceaaGreatDoor.W
open Go.Pl

-- function 88
set_option maxRecDepth 100000 in
def F88 (h_0_0 : Int) (h_0_1 : Int) (h_0_2 : Int) (h_0_3 : Int) (K : Value → Heap → Prop) (h0 : Heap) : Prop := (
  newW (.cells #[.int .u8 h_0_0, .int .u32 h_0_1, .int .u32 h_0_2, .int .u32 h_0_3] 99) (fun a1 h2 =>
  ldW (.int .u8) (Addr.add a1 0) (fun (x3 : Int) =>
  br (decide (x3 ≥ (1 : Int)))
  (ldW (.int .u8) (Addr.add a1 0) (fun (x4 : Int) =>
  K (.bool (decide (x4 ≤ (5 : Int)))) h2) h2)
  (K (.bool false) h2)) h2) h0)
set_option maxRecDepth 100000 in
theorem F88_eq (h_0_0 : Int) (h_0_1 : Int) (h_0_2 : Int) (h_0_3 : Int) (K : Value → Heap → Prop) (h0 : Heap) : funWE Tryz.prog 88 (.seq (.leaf) (.seq (.leaf) (.leaf))) [.agg #[.int .u8 h_0_0, .int .u32 h_0_1, .int .u32 h_0_2, .int .u32 h_0_3]] K h0 = F88 h_0_0 h_0_1 h_0_2 h_0_3 K h0 := by kernel_rfl

-- function 89
set_option maxRecDepth 100000 in
def F89 (n_0 : Int) (K : Value → Heap → Prop) (h0 : Heap) : Prop := (
  newW (.cells #[.int .u8 (IntKind.wrap .u8 (Int.tmod n_0 (256 : Int))), .int .u8 (IntKind.wrap .u8 (Int.tmod (IntKind.wrap .u32 (Int.tdiv n_0 (256 : Int))) (256 : Int))), .int .u8 (IntKind.wrap .u8 (Int.tmod (IntKind.wrap .u32 (Int.tdiv n_0 (65536 : Int))) (256 : Int))), .int .u8 (IntKind.wrap .u8 (IntKind.wrap .u32 (Int.tdiv n_0 (16777216 : Int))))] 5) (fun a1 h2 =>
  K (.slice (some a1) 4 4) h2) h0)
set_option maxRecDepth 100000 in
theorem F89_eq (n_0 : Int) (K : Value → Heap → Prop) (h0 : Heap) : funWE Tryz.prog 89 (.seq (.leaf) (.seq (.leaf) (.leaf))) [.int .u32 n_0] K h0 = F89 n_0 K h0 := by kernel_rfl

-- function 102
set_option maxRecDepth 100000 in
def F102 (b_0 : Option Addr) (b_0l _b_0c : Nat) (K : Value → Heap → Prop) (h0 : Heap) : Prop := (
  ptrW b_0 (fun a1 =>
  idxW (0 : Int) b_0l true (ldW (.int .u8) (Addr.add a1 (Int.toNat (0 : Int) * 1)) (fun (x2 : Int) =>
  ptrW b_0 (fun a3 =>
  idxW (1 : Int) b_0l true (ldW (.int .u8) (Addr.add a3 (Int.toNat (1 : Int) * 1)) (fun (x4 : Int) =>
  ptrW b_0 (fun a5 =>
  idxW (2 : Int) b_0l true (ldW (.int .u8) (Addr.add a5 (Int.toNat (2 : Int) * 1)) (fun (x6 : Int) =>
  ptrW b_0 (fun a7 =>
  idxW (3 : Int) b_0l true (ldW (.int .u8) (Addr.add a7 (Int.toNat (3 : Int) * 1)) (fun (x8 : Int) =>
  K (.int .u32 (IntKind.wrap .u32 ((IntKind.wrap .u32 ((IntKind.wrap .u32 ((IntKind.wrap .u32 x2) + (IntKind.wrap .u32 ((256 : Int) * (IntKind.wrap .u32 x4))))) + (IntKind.wrap .u32 ((65536 : Int) * (IntKind.wrap .u32 x6))))) + (IntKind.wrap .u32 ((16777216 : Int) * (IntKind.wrap .u32 x8)))))) h0) h0))) h0))) h0))) h0)))
set_option maxRecDepth 100000 in
theorem F102_eq (b_0 : Option Addr) (b_0l b_0c : Nat) (K : Value → Heap → Prop) (h0 : Heap) : funWE Tryz.prog 102 (.seq (.leaf) (.seq (.draw (odp [0, 1, 2, 3, 4, 5, 6, 7, 8, 9, 10, 11, 12, 13, 14, 15, 16, 17, 18, 19, 20, 21, 22] .nil) []) (.leaf))) [.slice b_0 b_0l b_0c] K h0 = F102 b_0 b_0l b_0c K h0 := by kernel_rfl

-- function 42
set_option maxRecDepth 100000 in
def F42 (h_0_0 : Int) (h_0_1 : Int) (h_0_2 : Int) (h_0_3 : Int) (block_1 : Option Addr) (block_1l block_1c : Nat) (K : Value → Heap → Prop) (h0 : Heap) : Prop := (
  newW (.cells #[.int .u8 h_0_0, .int .u32 h_0_1, .int .u32 h_0_2, .int .u32 h_0_3] 99) (fun a1 h2 =>
  ldAggW [.int .u8, .int .u32, .int .u32, .int .u32] a1 (fun (x3 : Int × Int × Int × Int) =>
  callT Tryz.prog 88 [.agg #[.int .u8 x3.1, .int .u32 x3.2.1, .int .u32 x3.2.2.1, .int .u32 x3.2.2.2]] [.sc .bool] (fun (r4 : Bool) h5 =>
  br (!r4)
  (K (.tuple #[.slice none 0 0, .int .i64 1]) h5)
  (br ((((block_1l : Nat) : Int)) != (16 : Int))
  (K (.tuple #[.slice none 0 0, .int .i64 3]) h5)
  (ldW (.int .u8) (Addr.add a1 0) (fun (x6 : Int) =>
  newW (.cells #[.int .u8 x6] 5) (fun a7 h8 =>
  ldW (.int .u32) (Addr.add a1 1) (fun (x9 : Int) =>
  callT Tryz.prog 89 [.int .u32 x9] [.sc .slice] (fun (r10 : (Option Addr × Nat × Nat)) h11 =>
  apW Tryz.prog #[68, 68] #[.slice (some a7) 1 1, .slice r10.1 r10.2.1 r10.2.2] (fun b12 n13 c14 h15 =>
  ldW (.int .u32) (Addr.add a1 2) (fun (x16 : Int) =>
  callT Tryz.prog 89 [.int .u32 x16] [.sc .slice] (fun (r17 : (Option Addr × Nat × Nat)) h18 =>
  apW Tryz.prog #[68, 68] #[.slice b12 n13 c14, .slice r17.1 r17.2.1 r17.2.2] (fun b19 n20 c21 h22 =>
  ldW (.int .u32) (Addr.add a1 3) (fun (x23 : Int) =>
  callT Tryz.prog 89 [.int .u32 x23] [.sc .slice] (fun (r24 : (Option Addr × Nat × Nat)) h25 =>
  apW Tryz.prog #[68, 68] #[.slice b19 n20 c21, .slice r24.1 r24.2.1 r24.2.2] (fun b26 n27 c28 h29 =>
  newW (.cells #[] 5) (fun a30 h31 =>
  apW Tryz.prog #[68, 68] #[.slice (some a30) 0 0, .slice b26 n27 c28] (fun b32 n33 c34 h35 =>
  apW Tryz.prog #[68, 68] #[.slice b32 n33 c34, .slice block_1 block_1l block_1c] (fun b36 n37 c38 h39 =>
  callT Tryz.prog 85 [.slice b36 n37 c38] [.sc (.int .u32)] (fun (r40 : Int) h41 =>
  callT Tryz.prog 89 [.int .u32 r40] [.sc .slice] (fun (r42 : (Option Addr × Nat × Nat)) h43 =>
  apW Tryz.prog #[68, 68] #[.slice b26 n27 c28, .slice r42.1 r42.2.1 r42.2.2] (fun b44 n45 c46 h47 =>
  apW Tryz.prog #[68, 68] #[.slice b44 n45 c46, .slice block_1 block_1l block_1c] (fun b48 n49 c50 h51 =>
  K (.tuple #[.slice b48 n49 c50, .int .i64 0]) h51) h47) h43) h41) h39) h35) h31) h29) h25) h22) h22) h18) h15) h15) h11) h8) h8) h5) h5))) h2) h2) h0)
set_option maxRecDepth 100000 in
theorem F42_eq (h_0_0 : Int) (h_0_1 : Int) (h_0_2 : Int) (h_0_3 : Int) (block_1 : Option Addr) (block_1l block_1c : Nat) (K : Value → Heap → Prop) (h0 : Heap) : funWE Tryz.prog 42 (.seq (.leaf) (.seq (.seq (.leaf) (.cond (.seq (.leaf) (.leaf)) (.leaf))) (.seq (.seq (.leaf) (.cond (.seq (.leaf) (.leaf)) (.leaf))) (.seq (.leaf) (.seq (.leaf) (.seq (.leaf) (.seq (.leaf) (.seq (.leaf) (.seq (.leaf) (.seq (.leaf) (.leaf))))))))))) [.agg #[.int .u8 h_0_0, .int .u32 h_0_1, .int .u32 h_0_2, .int .u32 h_0_3], .slice block_1 block_1l block_1c] K h0 = F42 h_0_0 h_0_1 h_0_2 h_0_3 block_1 block_1l block_1c K h0 := by kernel_rfl

-- function 55
set_option maxRecDepth 100000 in
def F55 (page_0 : Option Addr) (page_0l page_0c : Nat) (K : Value → Heap → Prop) (h0 : Heap) : Prop := (
  newW (.cells (zeroC Tryz.prog 99) 99) (fun a1 h2 =>
  br ((((page_0l : Nat) : Int)) != (33 : Int))
  (stLW a1 [.int .u8 0, .int .u32 0, .int .u32 0, .int .u32 0] (fun h3 =>
  ldAggW [.int .u8, .int .u32, .int .u32, .int .u32] a1 (fun (x4 : Int × Int × Int × Int) =>
  K (.tuple #[.agg #[.int .u8 x4.1, .int .u32 x4.2.1, .int .u32 x4.2.2.1, .int .u32 x4.2.2.2], .slice none 0 0, .int .i64 3]) h3) h3) h2)
  (slW page_0 page_0c 1 (0 : Int) (13 : Int) (((page_0c : Nat) : Int)) (fun b5 n6 c7 =>
  slW page_0 page_0c 1 (17 : Int) (((page_0l : Nat) : Int)) (((page_0c : Nat) : Int)) (fun b8 n9 c10 =>
  newW (.cells #[] 5) (fun a11 h12 =>
  apW Tryz.prog #[68, 68] #[.slice (some a11) 0 0, .slice b5 n6 c7] (fun b13 n14 c15 h16 =>
  apW Tryz.prog #[68, 68] #[.slice b13 n14 c15, .slice b8 n9 c10] (fun b17 n18 c19 h20 =>
  callQ Tryz.prog 85 [.slice b17 n18 c19] [.sc (.int .u32)] (fun (r21 : Int) =>
  slW page_0 page_0c 1 (13 : Int) (17 : Int) (((page_0c : Nat) : Int)) (fun b22 n23 c24 =>
  callQ Tryz.prog 102 [.slice b22 n23 c24] [.sc (.int .u32)] (fun (r25 : Int) =>
  br (r21 != r25)
  (stLW a1 [.int .u8 0, .int .u32 0, .int .u32 0, .int .u32 0] (fun h26 =>
  ldAggW [.int .u8, .int .u32, .int .u32, .int .u32] a1 (fun (x27 : Int × Int × Int × Int) =>
  K (.tuple #[.agg #[.int .u8 x27.1, .int .u32 x27.2.1, .int .u32 x27.2.2.1, .int .u32 x27.2.2.2], .slice none 0 0, .int .i64 4]) h26) h26) h20)
  (ptrW page_0 (fun a28 =>
  idxW (0 : Int) page_0l true (ldW (.int .u8) (Addr.add a28 (Int.toNat (0 : Int) * 1)) (fun (x29 : Int) =>
  slW page_0 page_0c 1 (1 : Int) (5 : Int) (((page_0c : Nat) : Int)) (fun b30 n31 c32 =>
  callQ Tryz.prog 102 [.slice b30 n31 c32] [.sc (.int .u32)] (fun (r33 : Int) =>
  slW page_0 page_0c 1 (5 : Int) (9 : Int) (((page_0c : Nat) : Int)) (fun b34 n35 c36 =>
  callQ Tryz.prog 102 [.slice b34 n35 c36] [.sc (.int .u32)] (fun (r37 : Int) =>
  slW page_0 page_0c 1 (9 : Int) (13 : Int) (((page_0c : Nat) : Int)) (fun b38 n39 c40 =>
  callQ Tryz.prog 102 [.slice b38 n39 c40] [.sc (.int .u32)] (fun (r41 : Int) =>
  newW (.cells (zeroC Tryz.prog 99) 99) (fun a42 h43 =>
  stLW a42 [.int .u8 x29, .int .u32 r33, .int .u32 r37, .int .u32 r41] (fun h44 =>
  ldAggW [.int .u8, .int .u32, .int .u32, .int .u32] a42 (fun (x45 : Int × Int × Int × Int) =>
  callT Tryz.prog 88 [.agg #[.int .u8 x45.1, .int .u32 x45.2.1, .int .u32 x45.2.2.1, .int .u32 x45.2.2.2]] [.sc .bool] (fun (r46 : Bool) h47 =>
  br (!r46)
  (stLW a1 [.int .u8 0, .int .u32 0, .int .u32 0, .int .u32 0] (fun h48 =>
  ldAggW [.int .u8, .int .u32, .int .u32, .int .u32] a1 (fun (x49 : Int × Int × Int × Int) =>
  K (.tuple #[.agg #[.int .u8 x49.1, .int .u32 x49.2.1, .int .u32 x49.2.2.1, .int .u32 x49.2.2.2], .slice none 0 0, .int .i64 2]) h48) h48) h47)
  (ldAggW [.int .u8, .int .u32, .int .u32, .int .u32] a42 (fun (x50 : Int × Int × Int × Int) =>
  slW page_0 page_0c 1 (17 : Int) (((page_0l : Nat) : Int)) (((page_0c : Nat) : Int)) (fun b51 n52 c53 =>
  newW (.cells #[] 5) (fun a54 h55 =>
  apW Tryz.prog #[68, 68] #[.slice (some a54) 0 0, .slice b51 n52 c53] (fun b56 n57 c58 h59 =>
  (cellH h59 (Addr.add a42 0) = some (.int .u8 x50.1) ∧ (cellH h59 (Addr.add a42 1) = some (.int .u32 x50.2.1) ∧ (cellH h59 (Addr.add a42 2) = some (.int .u32 x50.2.2.1) ∧ (cellH h59 (Addr.add a42 3) = some (.int .u32 x50.2.2.2) ∧ stLW a1 [.int .u8 x50.1, .int .u32 x50.2.1, .int .u32 x50.2.2.1, .int .u32 x50.2.2.2] (fun h60 =>
  ldAggW [.int .u8, .int .u32, .int .u32, .int .u32] a1 (fun (x61 : Int × Int × Int × Int) =>
  K (.tuple #[.agg #[.int .u8 x61.1, .int .u32 x61.2.1, .int .u32 x61.2.2.1, .int .u32 x61.2.2.2], .slice b56 n57 c58, .int .i64 0]) h60) h60) h59))))) h55) h47)) h47)) h44) h44) h43) h20) h20)) h20)) h20)) h20)))) h20)) h20) h16) h12) h2)))) h0)
set_option maxRecDepth 100000 in
theorem F55_eq (page_0 : Option Addr) (page_0l page_0c : Nat) (K : Value → Heap → Prop) (h0 : Heap) : funWE Tryz.prog 55 (.seq (.leaf) (.seq (.seq (.leaf) (.cond (.seq (.leaf) (.leaf)) (.leaf))) (.seq (.draw (odp [1, 2, 4, 5, 0, 3, 6, 7] .nil) []) (.seq (.seq (.draw (odp [0, 1, 2, 3, 4, 5] .nil) [1, 4]) (.cond (.seq (.leaf) (.leaf)) (.leaf))) (.seq (.draw (odp [0, 1, 2, 3, 4, 5, 6, 7, 8, 9, 10, 11, 12, 13, 14] .nil) [5, 8, 11]) (.seq (.seq (.leaf) (.cond (.seq (.leaf) (.leaf)) (.leaf))) (.seq (.draw (odp [0, 2, 3, 1, 4, 5, 6, 7] .nil) [200000]) (.leaf)))))))) [.slice page_0 page_0l page_0c] K h0 = F55 page_0 page_0l page_0c K h0 := by kernel_rfl

end Go.Proofs.YthimfpkkdhpceaaGreatDoor.W
/-
  The contracts of the references of sum and head.
-/
namespace Go.Proofs.YthimfpkkdhpceaaGreatDoor.R4
open Go.Pl Go.Proofs.YthimfpkkdhpceaaGreatDoor.W Go.Proofs.YthimfpkkdhpceaaGreatDoor.Four Go.Proofs.YthimfpkkdhpceaaGreatDoor.Byts Go.Proofs.YthimfpkkdhpceaaGreatDoor.Adl Go.Proofs.YthimfpkkdhpceaaGreatDoor.As Go.Proofs.YthimfpkkdhpceaaGreatDoor.Head
theorem of_ok (a : Option Addr) (c : Nat) (xs : List Int) (n : Nat) (hx : n = xs.length) (h : Heap) (hl : xs.length ≤ 100000) (hb : Byt xs) (r : Ar .u8 h a xs) :
    CallsH Tryz.prog 85 [.slice a n c] h fun v h' => v = .int .u32 (sumL xs) ∧ h' = h := by
  subst hx
  refine fun_ok hm' Tryz.func85 (by kernel_rfl) (F85_eq _ _ _ _ h) ?_
  unfold F85
  refine ⟨fun (q : Int × Int × Int) h' => h' = h ∧ ∃ i : Nat, q.2.2 = i ∧ i ≤ xs.length ∧ (q.1, q.2.1) = adl (1, 0) (xs.take i), fun (q : Int × Int × Int) _ => ((xs.length : Int) - q.2.2).toNat, ⟨rfl, 0, rfl, by omega, rfl⟩, ?_⟩
  rintro (⟨lo, hi, q⟩ : Int × Int × Int) j h' ⟨hh, i, hq, hi', ha⟩
  simp only [] at hq ha ⊢
  subst h'; subst hq
  have hin := adl_in (xs.take i) _ in10
  rw [← ha] at hin
  obtain ⟨⟨i1, i2⟩, i3, i4⟩ := hin
  simp only [] at i1 i2 i3 i4
  refine br_of (fun hlt => ?_) (fun hlt => ?_)
  · have hlt : i < xs.length := by simp at hlt; omega
    have hx := hb xs[i] (List.getElem_mem hlt)
    refine ix_ld r hlt hlt ?_
    rw [wr64 (n := xs[i]) (by omega) (by omega), wr64 (n := (lo : Int) + xs[i]) (by omega) (by omega), Int.tmod_eq_emod_of_nonneg (by omega), wr64 (n := (hi : Int) + _) (by omega) (by omega), Int.tmod_eq_emod_of_nonneg (by omega), wr64 (by omega) (by omega)]
    refine ⟨⟨rfl, i + 1, rfl, hlt, ?_⟩, (by first | omega | (dsimp only; omega) | (simp only []; omega))⟩
    rw [List.take_add_one, List.getElem?_eq_getElem hlt, adl_app, ← ha]; rfl
  · have he : i = xs.length := by simp at hlt; omega
    subst he
    rw [List.take_length] at ha
    refine ⟨?_, rfl⟩
    rw [wr64 (n := (hi : Int) * 65536) (by omega) (by omega), wr64 (by omega) (by omega), wru32, Int.emod_eq_of_lt (by omega) (by omega)]
    unfold sumL; rw [← ha]; rfl
theorem of_q (a : Option Addr) (c : Nat) (xs : List Int) (n : Nat) (hx : n = xs.length) (h : Heap) (hl : xs.length ≤ 100000) (hb : Byt xs) (r : Ar .u8 h a xs) {F : Int → Prop} (hF : F (sumL xs)) : callQ Tryz.prog 85 [.slice a n c] [.sc (.int .u32)] F h :=
  ⟨sumL xs, fun h' e => of_ok a c xs n hx h' hl hb (r.new e.new), hF⟩
theorem right_ok (x : Hd) (h : Heap) : CallsH Tryz.prog 88 [hdV x] h fun v h' => v = .bool (isR x) ∧ New h h' := by
  refine fun_ok hm' Tryz.func88 (by kernel_rfl) (F88_eq _ _ _ _ _ h) ?_
  unfold F88
  refine new_of fun h1 b1 n1 s1 => ld_of (c := .int .u8) x.1 (by rw [add_mk, cellH_blk b1]; rfl) (br_of (fun h0 => ld_of (c := .int .u8) x.1 (by rw [add_mk, cellH_blk b1]; rfl) ⟨?_, n1⟩) fun h0 => ⟨?_, n1⟩)
  · have h0 := of_decide_eq_true h0
    unfold isR; congr 1; simp; omega
  · have h0 := of_decide_eq_false h0
    unfold isR; congr 1; symm; simp; omega
theorem four_ok (n : Int) (hn : 0 ≤ n ∧ n < 4294967296) (h : Heap) : CallsH Tryz.prog 89 [.int .u32 n] h fun v h' => ∃ a, v = .slice a 4 4 ∧ Got .u8 5 h h' a 4 (four n) := by
  refine fun_ok hm' Tryz.func89 (by kernel_rfl) (F89_eq _ _ h) ?_
  unfold F89
  have tm : Int.tmod n 256 = n % 256 := Int.tmod_eq_emod_of_nonneg hn.1
  have td : ∀ k, Int.tdiv n k = n / k := fun k => Int.tdiv_eq_ediv_of_nonneg hn.1
  have e0 : IntKind.wrap .u8 (Int.tmod n 256) = n % 256 := by rw [wru8, tm]; omega
  have e1 : IntKind.wrap .u8 (Int.tmod (IntKind.wrap .u32 (Int.tdiv n 256)) 256) = n / 256 % 256 := by rw [wru8, wru32, td, Int.tmod_eq_emod_of_nonneg (by omega)]; omega
  have e2 : IntKind.wrap .u8 (Int.tmod (IntKind.wrap .u32 (Int.tdiv n 65536)) 256) = n / 65536 % 256 := by rw [wru8, wru32, td, Int.tmod_eq_emod_of_nonneg (by omega)]; omega
  have e3 : IntKind.wrap .u8 (IntKind.wrap .u32 (Int.tdiv n 16777216)) = n / 16777216 % 256 := by rw [wru8, wru32, td]; omega
  rw [e0, e1, e2, e3]
  refine new_of fun h1 b1 n1 s1 => ⟨_, rfl, RowS.blk (xs := (four n).map (Value.int .u8)) b1 rfl (by simp [maxLen, four_len]), n1, fun _ b e => by injection e with e; change h.size = b at e; omega⟩
theorem back_ok (a : Option Addr) (c : Nat) (xs : List Int) (n : Nat) (hx : n = xs.length) (h : Heap) (s : Sl8 h a c xs) (hl : 4 ≤ xs.length) :
    CallsH Tryz.prog 102 [.slice a n c] h fun v h' => v = .int .u32 (wordAt xs 0) ∧ h' = h := by
  subst hx
  refine fun_ok hm' Tryz.func102 (by kernel_rfl) (F102_eq _ _ _ _ h) ?_
  unfold F102
  have q0 := s.byt.get 0; have q1 := s.byt.get 1; have q2 := s.byt.get 2; have q3 := s.byt.get 3
  refine s.at_ 0 rfl (by omega) (by omega) (s.at_ 1 rfl (by omega) (by omega) (s.at_ 2 rfl (by omega) (by omega) (s.at_ 3 rfl (by omega) (by omega) ⟨?_, rfl⟩)))
  simp only [wru32, wordAt, back4, Nat.zero_add]
  congr 1; omega
theorem back_q (a : Option Addr) (c : Nat) (xs : List Int) (n : Nat) (hx : n = xs.length) (h : Heap) (s : Sl8 h a c xs) (hl : 4 ≤ xs.length) {F : Int → Prop} (hF : F (wordAt xs 0)) : callQ Tryz.prog 102 [.slice a n c] [.sc (.int .u32)] F h :=
  ⟨wordAt xs 0, fun h' e => back_ok a c xs n hx h' (s.new e.new) hl, hF⟩
theorem zeroR : zeroC Tryz.prog 99 = hdA (0, 0, 0, 0) := by kernel_rfl
theorem bytes_ok (x : Hd) (hx : HdOk x) (a : Option Addr) (c : Nat) (bs : List Int) (h : Heap) (s : Sl8 h a c bs) :
    CallsH Tryz.prog 42 [hdV x, .slice a bs.length c] h fun v h' => ∃ a' c', v = .tuple #[.slice a' (bytesF x bs).1.length c', .int .i64 (bytesF x bs).2] ∧ Got .u8 5 h h' a' c' (bytesF x bs).1 := by
  refine fun_ok hm' Tryz.func42 (by kernel_rfl) (F42_eq _ _ _ _ _ _ _ _ h) ?_
  unfold F42
  refine new_of fun h1 b1 n1 s1 => ldAgg_blk x b1 ⟨rfl, rfl, rfl, rfl, trivial⟩ (call_of (right_ok x h1) ?_)
  rintro v h2 ⟨rfl, n2⟩
  have n02 := n1.trans n2
  refine ⟨isR x, rfl, ?_⟩
  cases hr : isR x with
  | false => exact br_t rfl ⟨none, 0, by simp [bytesF, hr], by simpa [bytesF, hr] using Got.nil _ _ n02⟩
  | true =>
  refine br_f rfl (br_of (fun h0 => ?_) fun h0 => ?_)
  · have h0 : bs.length ≠ 16 := by simp at h0; omega
    exact ⟨none, 0, by simp [bytesF, hr, h0], by simpa [bytesF, hr, h0] using Got.nil _ _ n02⟩
  have h16 : bs.length = 16 := by simp at h0; omega
  have ef : bytesF x bs = (pageL x bs, 0) := by simp [bytesF, hr, h16]
  rw [ef]
  have b1' := b1.new n2
  refine ld_of (c := .int .u8) x.1 (by rw [add_mk, cellH_blk b1']; rfl) (new_of fun h3 b3 n3 s3 => ?_)
  have n13 := n2.trans n3
  have k3 : Got .u8 5 h1 h3 (some ⟨h2.size, 0, none⟩) 1 [x.1] := ⟨RowS.blk (n := 1) b3 rfl (by simp [maxLen]), n13, fun _ b e => by injection e with e; change h2.size = b at e; have := n2.size; omega⟩
  have more : ∀ (h' : Heap) (a' : Option Addr) (c' : Nat) (xs ys : List Int) (b : Option Addr) (d m : Nat), Got .u8 5 h1 h' a' c' xs → xs ≠ [] → Ar .u8 h' b ys → m = ys.length → xs.length + m ≤ 1000 → ∀ F : Option Addr → Nat → Nat → Heap → Prop,
      (∀ a2 c2 h2, Got .u8 5 h1 h2 a2 c2 (xs ++ ys) → F a2 (xs ++ ys).length c2 h2) → apW Tryz.prog #[68, 68] #[.slice a' xs.length c', .slice b m d] F h' := by
    intro h' a' c' xs ys b d m k hx r hm hn F hF
    exact Grow.ints ap8 (Grow.start k.row) r hm (by omega) (by omega) fun a2 c2 h2 g => hF a2 c2 h2 (g.got k.new (fun b e => k.at_ hx b e))
  refine ld_of (c := .int .u32) x.2.1 (by rw [add_mk, cellH_blk (b1.new k3.new)]; rfl) (call_of (four_ok _ hx.s h3) ?_)
  rintro v h4 ⟨a4, rfl, g4⟩
  refine ⟨(a4, 4, 4), rfl, more h4 _ 1 [x.1] (four x.2.1) a4 4 4 (k3.after g4.new) (by simp) g4.ar rfl (by simp) _ fun a5 c5 h5 k5 => ?_⟩
  have hl5 : ([x.1] ++ four x.2.1).length = 5 := rfl
  refine ld_of (c := .int .u32) x.2.2.1 (by rw [add_mk, cellH_blk (b1.new k5.new)]; rfl) (call_of (four_ok _ hx.i h5) ?_)
  rintro v h6 ⟨a6, rfl, g6⟩
  refine ⟨(a6, 4, 4), rfl, more h6 a5 c5 _ (four x.2.2.1) a6 4 4 (k5.after g6.new) (by simp) g6.ar rfl (by rw [hl5]; omega) _ fun a7 c7 h7 k7 => ?_⟩
  have hl7 : ([x.1] ++ four x.2.1 ++ four x.2.2.1).length = 9 := rfl
  refine ld_of (c := .int .u32) x.2.2.2 (by rw [add_mk, cellH_blk (b1.new k7.new)]; rfl) (call_of (four_ok _ hx.q h7) ?_)
  rintro v h8 ⟨a8, rfl, g8⟩
  refine ⟨(a8, 4, 4), rfl, more h8 a7 c7 _ (four x.2.2.2) a8 4 4 (k7.after g8.new) (by simp) g8.ar rfl (by rw [hl7]; omega) _ fun a9 c9 h9 k9 => ?_⟩
  have eh : [x.1] ++ four x.2.1 ++ four x.2.2.1 ++ four x.2.2.2 = headL x := by simp [headL, fours]
  rw [eh] at k9 ⊢
  refine new_of fun hA bA nA sA => ?_
  have gA : Grow hA (some h9.size) hA 5 1 (some ⟨h9.size, 0, none⟩) 0 0 (([] : List Int).map (Value.int .u8)) := Grow.start (RowS.blk bA rfl (Nat.zero_le _))
  refine Grow.ints ap8 gA (k9.ar.new nA) rfl (by rw [headL_len]; omega) (by omega) fun aB cB hB gB => ?_
  rw [List.nil_append] at gB ⊢
  have kB : Got .u8 5 h9 hB aB cB (headL x) := gB.got nA (fun b e => by injection e with e; omega)
  refine Grow.ints ap8 gB (s.ar.new ((n1.trans k9.new).trans kB.new)) rfl (by rw [headL_len]; omega) (by omega) fun aC cC hC gC => ?_
  have kC : Got .u8 5 h9 hC aC cC (headL x ++ bs) := gC.got nA (fun b e => by injection e with e; omega)
  have hCl : (headL x ++ bs).length = 29 := by rw [List.length_append, headL_len]; omega
  refine call_of (of_ok aC cC (headL x ++ bs) _ rfl hC (by omega) ((headL_byt hx).app s.byt) kC.ar) ?_
  rintro v h' ⟨rfl, hh⟩; subst h'
  refine ⟨sumL (headL x ++ bs), rfl, call_of (four_ok _ (sumL_range _) hC) ?_⟩
  rintro v hD ⟨aD, rfl, gD⟩
  refine ⟨(aD, 4, 4), rfl, more hD a9 c9 (headL x) (four (sumL (headL x ++ bs))) aD 4 4 ((k9.after kC.new).after gD.new) (by simp [headL]) gD.ar rfl (by rw [headL_len]; omega) _ fun aE cE hE kE => ?_⟩
  have hEl : (headL x ++ four (sumL (headL x ++ bs))).length = 17 := by rw [List.length_append, headL_len, four_len]
  refine more hE aE cE _ bs a c _ kE (by simp [headL]) (s.ar.new (n1.trans kE.new)) rfl (by omega) _ fun aF cF hF kF => ?_
  exact ⟨aF, cF, rfl, kF.before n1⟩
def ReadR (p : List Int) (h : Heap) (v : Value) (h' : Heap) : Prop := ∃ a' c', v = .tuple #[hdV (readF p).1, .slice a' (readF p).2.1.length c', .int .i64 (readF p).2.2] ∧ Got .u8 5 h h' a' c' (readF p).2.1
theorem read_ok (a : Option Addr) (c : Nat) (p : List Int) (h : Heap) (s : Sl8 h a c p) : CallsH Tryz.prog 55 [.slice a p.length c] h (ReadR p h) := by
  refine fun_ok hm' Tryz.func55 (by kernel_rfl) (F55_eq _ _ _ _ h) ?_
  unfold F55
  rw [zeroR]
  refine new_of fun h1 b1 n1 z1 => ?_
  have out : ∀ (x : Hd) (h2 : Heap) (e : Value) (b : Option Addr) (m c' : Nat), (∃ A, Blk h2 h.size A 99 ∧ A.size = 4) → New h h2 → (∀ h', Upd h.size h2 h' → New h h' → ReadR p h (.tuple #[hdV x, .slice b m c', e]) h') →
      stLW ⟨h.size, 0, none⟩ [.int .u8 x.1, .int .u32 x.2.1, .int .u32 x.2.2.1, .int .u32 x.2.2.2] (fun h3 => ldAggW [.int .u8, .int .u32, .int .u32, .int .u32] ⟨h.size, 0, none⟩ (fun (y : Int × Int × Int × Int) => ReadR p h (.tuple #[.agg #[.int .u8 y.1, .int .u32 y.2.1, .int .u32 y.2.2.1, .int .u32 y.2.2.2], .slice b m c', e]) h3) h3) h2 := by
    intro x h2 e b m c' ⟨A, bA, hA⟩ n2 hK
    refine stL_blk bA (by rw [hA]; exact Nat.le_refl _) fun h3 b3 o3 => ?_
    have b3 : Blk h3 h.size (hdA x) 99 := by rw [setsA_all (by rw [hA]; rfl)] at b3; exact b3
    exact ldAgg_blk x b3 ⟨rfl, rfl, rfl, rfl, trivial⟩ (hK h3 o3.upd (o3.upd.new n2 (Nat.le_refl _)))
  refine br_of (fun h0 => ?_) fun h0 => ?_
  · have h0 : p.length ≠ 33 := by simp at h0; omega
    have ef : readF p = ((0, 0, 0, 0), [], 3) := if_pos h0
    exact out (0, 0, 0, 0) h1 _ none 0 0 ⟨_, b1, rfl⟩ n1 fun h' _ n' => ⟨none, 0, by rw [ef]; rfl, by rw [ef]; exact Got.nil _ _ n'⟩
  have h33 : p.length = 33 := by simp at h0; omega
  have s1 := s.new n1
  have hle := s.le
  rw [h33]
  have hnum : ∀ (k : Nat), k + 4 ≤ 33 → ((p.drop k).take (33 - k)) = p.drop k := fun k hk => List.take_of_length_le (by simp; omega)
  refine s1.sl 0 13 c rfl rfl rfl (by omega) (by omega) (by omega) (Nat.le_refl _) fun b2 d2 s2 => ?_
  rw [List.drop_zero] at s2
  have s2 : Sl8 h1 b2 d2 (p.take 13) := s2
  have h13 : (p.take 13).length = 13 - 0 := by simp; omega
  refine s1.sl 17 33 c rfl rfl rfl (by omega) (by omega) (by omega) (Nat.le_refl _) fun bB dB sB => ?_
  rw [hnum 17 (by omega)] at sB
  have hBl : (p.drop 17).length = 33 - 17 := by simp; omega
  refine new_of fun h2 bA nA zA => ?_
  have gA : Grow h2 (some h1.size) h2 5 1 (some ⟨h1.size, 0, none⟩) 0 0 (([] : List Int).map (Value.int .u8)) := Grow.start (RowS.blk bA rfl (Nat.zero_le _))
  refine Grow.ints ap8 gA (s2.ar.new nA) h13.symm (by omega) (by omega) fun a3 c3 h3 g3 => ?_
  rw [List.nil_append] at g3 ⊢
  have k3 : Got .u8 5 h1 h3 a3 c3 (p.take 13) := g3.got nA (fun b e => by injection e with e; omega)
  refine Grow.ints ap8 g3 (sB.ar.new k3.new) hBl.symm (by omega) (by omega) fun a4 c4 h4 g4 => ?_
  have k4 : Got .u8 5 h1 h4 a4 c4 (p.take 13 ++ p.drop 17) := g4.got nA (fun b e => by injection e with e; omega)
  have n04 := n1.trans k4.new
  have s4 := s.new n04
  refine of_q a4 c4 _ _ rfl h4 (by rw [List.length_append]; omega) ((s.byt.take _).app (s.byt.drop _)) k4.ar ?_
  have hw : ∀ (k : Nat), k + 4 ≤ 33 → ∀ {F : Int → Prop}, F (wordAt p k) → slW a c 1 (k : Int) ((k + 4 : Nat) : Int) (c : Int) (fun b n d => callQ Tryz.prog 102 [.slice b n d] [.sc (.int .u32)] F h4) := by
    intro k hk F hF
    refine s4.sl k (k + 4) c rfl rfl rfl (by omega) (by omega) (by omega) (Nat.le_refl _) fun b d sb => ?_
    rw [show k + 4 - k = 4 by omega] at sb ⊢
    refine back_q b d _ _ (by simp; omega) h4 sb (by simp; omega) ?_
    have e : wordAt ((p.drop k).take 4) 0 = wordAt p k := by
      simp only [wordAt, bys_take (show 0 < 4 by omega), bys_take (show 0 + 1 < 4 by omega), bys_take (show 0 + 2 < 4 by omega), bys_take (show 0 + 3 < 4 by omega), bys_drop, Nat.zero_add, Nat.add_zero]
    rw [e]; exact hF
  have b1' : Blk h4 h.size (hdA (0, 0, 0, 0)) 99 := b1.new k4.new
  refine hw 13 (by omega) (br_of (fun h5 => ?_) fun h5 => ?_)
  · have h5 : sumL (p.take 13 ++ p.drop 17) ≠ wordAt p 13 := by simpa using h5
    have ef : readF p = ((0, 0, 0, 0), [], 4) := by unfold readF; rw [if_neg (by omega), if_pos h5]
    exact out (0, 0, 0, 0) h4 _ none 0 0 ⟨_, b1', rfl⟩ n04 fun h' _ n' => ⟨none, 0, by rw [ef]; rfl, by rw [ef]; exact Got.nil _ _ n'⟩
  have h5 : sumL (p.take 13 ++ p.drop 17) = wordAt p 13 := by simpa using h5
  refine s4.at_ 0 rfl (by omega) (by omega) (hw 1 (by omega) (hw 5 (by omega) (hw 9 (by omega) (new_stL (by rfl) fun h6 b6 n6 z6 => ?_))))
  have b6 : Blk h6 h4.size (hdA (hdOf p)) 99 := b6
  refine ldAgg_blk (hdOf p) b6 ⟨rfl, rfl, rfl, rfl, trivial⟩ (call_of (right_ok (hdOf p) h6) ?_)
  rintro v h7 ⟨rfl, n7⟩
  have n07 := (n04.trans n6).trans n7
  have b1'' : Blk h7 h.size (hdA (0, 0, 0, 0)) 99 := (b1'.new n6).new n7
  refine ⟨isR (hdOf p), rfl, ?_⟩
  cases hr : isR (hdOf p) with
  | false =>
    have ef : readF p = ((0, 0, 0, 0), [], 2) := by unfold readF; rw [if_neg (by omega), if_neg (by simp [h5]), if_pos hr]
    exact br_t rfl (out (0, 0, 0, 0) h7 _ none 0 0 ⟨_, b1'', rfl⟩ n07 fun h' _ n' => ⟨none, 0, by rw [ef]; rfl, by rw [ef]; exact Got.nil _ _ n'⟩)
  | true =>
  have ef : readF p = (hdOf p, p.drop 17, 0) := by unfold readF; rw [if_neg (by omega), if_neg (by simp [h5]), if_neg (by simp [hr])]
  refine br_f rfl (ldAgg_blk (hdOf p) (b6.new n7) ⟨rfl, rfl, rfl, rfl, trivial⟩ ?_)
  refine (s.new n07).sl 17 33 c rfl rfl rfl (by omega) (by omega) (by omega) (Nat.le_refl _) fun b8 d8 s8 => ?_
  rw [hnum 17 (by omega)] at s8
  refine new_of fun h9 b9 n9 z9 => ?_
  have g9 : Grow h9 (some h7.size) h9 5 1 (some ⟨h7.size, 0, none⟩) 0 0 (([] : List Int).map (Value.int .u8)) := Grow.start (RowS.blk b9 rfl (Nat.zero_le _))
  refine Grow.ints ap8 g9 (s8.ar.new n9) hBl.symm (by omega) (by omega) fun aA cA hA gA => ?_
  rw [List.nil_append] at gA ⊢
  have kA : Got .u8 5 h7 hA aA cA (p.drop 17) := gA.got n9 (fun b e => by injection e with e; omega)
  have b6' := (b6.new n7).new kA.new
  refine ⟨by simp only [add_mk, cellH_blk b6']; first | rfl | trivial, by simp only [add_mk, cellH_blk b6']; first | rfl | trivial, by simp only [add_mk, cellH_blk b6']; first | rfl | trivial, by simp only [add_mk, cellH_blk b6']; first | rfl | trivial, ?_⟩
  refine out (hdOf p) hA _ aA _ cA ⟨_, b1''.new kA.new, rfl⟩ (n07.trans kA.new) fun h' u' n' => ⟨aA, cA, by rw [ef], ?_⟩
  rw [ef]
  exact ⟨kA.row.keep u'.size fun g hg hl => u'.same g hl fun e => by have := kA.at_ (fun e0 => by rw [e0] at hBl; simp at hBl) g hg; have := ((k4.new.trans n6).trans n7).size; omega, n', fun hx b hb => Nat.le_trans n07.size (kA.at_ hx b hb)⟩
end Go.Proofs.YthimfpkkdhpceaaGreatDoor.R4
/-
  The formulas of the reference of zns. Each formula checked by the kernel. Printed by a program of this repo.
-/
namespace Go.Proofs.YthimfpkkdhpceaaGreatDoor.W
open Go.Pl

-- function 9
set_option maxRecDepth 100000 in
def F9 (zones_0 : Int) (pages_1 : Int) (K : Value → Heap → Prop) (h0 : Heap) : Prop := (
  cutT [] (fun (K1 : Unit → Heap → Prop) h2 =>
  br (decide (zones_0 < (1 : Int)))
  (K (.tuple #[.pointer none, .int .i64 1]) h2)
  (br (decide (zones_0 > (24 : Int)))
  (K (.tuple #[.pointer none, .int .i64 1]) h2)
  (br (decide (pages_1 < (1 : Int)))
  (K (.tuple #[.pointer none, .int .i64 1]) h2)
  (br (decide (pages_1 > (16 : Int)))
  (K (.tuple #[.pointer none, .int .i64 1]) h2)
  (K1 () h2))))) (fun (_s3 : Unit) _ h4 =>
  newW (.cells #[.slice none 0 0, .int .i64 pages_1, .int .i64 (-1), .int .i64 0, .bool false] 78) (fun a5 h6 =>
  loopT [.sc (.int .i64)] (fun (s8 : Int) _ (K7 : Int → Heap → Prop) h9 =>
  br (decide (s8 < zones_0))
  (ldW .slice (Addr.add a5 0) (fun (x10 : Option Addr × Nat × Nat) =>
  newW (.cells #[.slice none 0 0, .int .i64 0, .bool false] 80) (fun a11 h12 =>
  apW Tryz.prog #[76, 76] #[.slice x10.1 x10.2.1 x10.2.2, .slice (some a11) 1 1] (fun b13 n14 c15 h16 =>
  stW (Addr.add a5 0) (.slice b13 n14 c15) (fun h17 =>
  K7 (IntKind.wrap .i64 (s8 + (1 : Int))) h17) h16) h12) h9) h9)
  (K (.tuple #[.pointer (some a5), .int .i64 0]) h9)) (0 : Int) h6) h4) h0)
set_option maxRecDepth 100000 in
theorem F9_eq (zones_0 : Int) (pages_1 : Int) (K : Value → Heap → Prop) (h0 : Heap) : funWE Tryz.prog 9 (.seq (.leaf) (.cut [] (.seq (.leaf) (.cond (.seq (.leaf) (.leaf)) (.leaf))) (.seq (.leaf) (.seq (.seq (.leaf) (.block (.loop [(7, .sc (.int .i64))] (.seq (.seq (.leaf) (.cond (.leaf) (.leaf))) (.seq (.block (.leaf)) (.leaf)))))) (.seq (.leaf) (.leaf)))))) [.int .i64 zones_0, .int .i64 pages_1] K h0 = F9 zones_0 pages_1 K h0 := by kernel_rfl

-- function 29
set_option maxRecDepth 100000 in
def F29 (pages_0 : Int) (l_1 : Option Addr) (l_1l _l_1c : Nat) (K : Value → Heap → Prop) (h0 : Heap) : Prop := (
  callT Tryz.prog 9 [.int .i64 (((l_1l : Nat) : Int)), .int .i64 pages_0] [.sc .ptr, .sc (.int .i64)] (fun (r1 : (Option Addr) × Int) h2 =>
  br (r1.2 != (0 : Int))
  (K (.tuple #[.pointer none, .int .i64 r1.2]) h2)
  (loopT [.sc (.int .i64)] (fun (s4 : Int) _ (K3 : Int → Heap → Prop) h5 =>
  br (decide (s4 < (((l_1l : Nat) : Int))))
  (ptrW l_1 (fun a6 =>
  idxW s4 l_1l true (ldW .slice (Addr.add a6 (Int.toNat s4 * 1)) (fun (x7 : Option Addr × Nat × Nat) =>
  br (decide ((((x7.2.1 : Nat) : Int)) > pages_0))
  (K (.tuple #[.pointer none, .int .i64 1]) h5)
  (loopT [.sc (.int .i64)] (fun (s9 : Int) _ (K8 : Int → Heap → Prop) h10 =>
  ptrW l_1 (fun a11 =>
  idxW s4 l_1l true (ldW .slice (Addr.add a11 (Int.toNat s4 * 1)) (fun (x12 : Option Addr × Nat × Nat) =>
  br (decide (s9 < (((x12.2.1 : Nat) : Int))))
  (cutT [] (fun (K13 : Unit → Heap → Prop) h22 =>
  ptrW l_1 (fun a14 =>
  idxW s4 l_1l true (ldW .slice (Addr.add a14 (Int.toNat s4 * 1)) (fun (x15 : Option Addr × Nat × Nat) =>
  ptrW x15.1 (fun a16 =>
  idxW s9 x15.2.1 true (ldW .slice (Addr.add a16 (Int.toNat s9 * 1)) (fun (x17 : Option Addr × Nat × Nat) =>
  br ((((x17.2.1 : Nat) : Int)) != (0 : Int))
  (ptrW l_1 (fun a18 =>
  idxW s4 l_1l true (ldW .slice (Addr.add a18 (Int.toNat s4 * 1)) (fun (x19 : Option Addr × Nat × Nat) =>
  ptrW x19.1 (fun a20 =>
  idxW s9 x19.2.1 true (ldW .slice (Addr.add a20 (Int.toNat s9 * 1)) (fun (x21 : Option Addr × Nat × Nat) =>
  br ((((x21.2.1 : Nat) : Int)) != (33 : Int))
  (K (.tuple #[.pointer none, .int .i64 1]) h22)
  (K13 () h22)) h22))) h22)))
  (K13 () h22)) h22))) h22))) (fun (_s23 : Unit) _ h24 =>
  ptrW r1.1 (fun a25 =>
  ldW .slice (Addr.add a25 0) (fun (x26 : Option Addr × Nat × Nat) =>
  ptrW r1.1 (fun a27 =>
  ldW .slice (Addr.add a27 0) (fun (x28 : Option Addr × Nat × Nat) =>
  ptrW x28.1 (fun a29 =>
  idxW s4 x28.2.1 true (ldW .slice (Addr.add (Addr.add a29 (Int.toNat s4 * 3)) 0) (fun (x30 : Option Addr × Nat × Nat) =>
  ptrW l_1 (fun a31 =>
  idxW s4 l_1l true (ldW .slice (Addr.add a31 (Int.toNat s4 * 1)) (fun (x32 : Option Addr × Nat × Nat) =>
  ptrW x32.1 (fun a33 =>
  idxW s9 x32.2.1 true (ldW .slice (Addr.add a33 (Int.toNat s9 * 1)) (fun (x34 : Option Addr × Nat × Nat) =>
  newW (.cells #[] 5) (fun a35 h36 =>
  apW Tryz.prog #[68, 68] #[.slice (some a35) 0 0, .slice x34.1 x34.2.1 x34.2.2] (fun b37 n38 c39 h40 =>
  (cellH h40 (Addr.add (Addr.add a29 (Int.toNat s4 * 3)) 0) = some (.slice x30.1 x30.2.1 x30.2.2) ∧ (cellH h40 (Addr.add a27 0) = some (.slice x28.1 x28.2.1 x28.2.2) ∧ (cellH h40 (Addr.add a25 0) = some (.slice x26.1 x26.2.1 x26.2.2) ∧ newW (.cells #[.slice b37 n38 c39] 68) (fun a41 h42 =>
  apW Tryz.prog #[67, 67] #[.slice x30.1 x30.2.1 x30.2.2, .slice (some a41) 1 1] (fun b43 n44 c45 h46 =>
  (cellH h46 (Addr.add a27 0) = some (.slice x28.1 x28.2.1 x28.2.2) ∧ (cellH h46 (Addr.add a25 0) = some (.slice x26.1 x26.2.1 x26.2.2) ∧ ptrW x26.1 (fun a47 =>
  idxW s4 x26.2.1 true (stW (Addr.add (Addr.add a47 (Int.toNat s4 * 3)) 0) (.slice b43 n44 c45) (fun h48 =>
  K8 (IntKind.wrap .i64 (s9 + (1 : Int))) h48) h46))))) h42) h40)))) h36) h24) h24))) h24))) h24))) h24)) h24)) h10)
  (ptrW r1.1 (fun a49 =>
  ldW .slice (Addr.add a49 0) (fun (x50 : Option Addr × Nat × Nat) =>
  ptrW l_1 (fun a51 =>
  idxW s4 l_1l true (ldW .slice (Addr.add a51 (Int.toNat s4 * 1)) (fun (x52 : Option Addr × Nat × Nat) =>
  ptrW x50.1 (fun a53 =>
  idxW s4 x50.2.1 true (stW (Addr.add (Addr.add a53 (Int.toNat s4 * 3)) 1) (.int .i64 (((x52.2.1 : Nat) : Int))) (fun h54 =>
  K3 (IntKind.wrap .i64 (s4 + (1 : Int))) h54) h10))) h10))) h10))) h10))) (0 : Int) h5)) h5)))
  (K (.tuple #[.pointer r1.1, .int .i64 0]) h5)) (0 : Int) h2)) h0)
set_option maxRecDepth 100000 in
theorem F29_eq (pages_0 : Int) (l_1 : Option Addr) (l_1l l_1c : Nat) (K : Value → Heap → Prop) (h0 : Heap) : funWE Tryz.prog 29 (.seq (.leaf) (.seq (.leaf) (.seq (.seq (.leaf) (.cond (.seq (.leaf) (.leaf)) (.leaf))) (.seq (.seq (.leaf) (.block (.loop [(8, .sc (.int .i64))] (.seq (.seq (.leaf) (.cond (.leaf) (.leaf))) (.seq (.block (.seq (.seq (.leaf) (.cond (.seq (.leaf) (.leaf)) (.leaf))) (.seq (.seq (.leaf) (.block (.loop [(9, .sc (.int .i64))] (.seq (.seq (.leaf) (.cond (.leaf) (.leaf))) (.seq (.block (.cut [] (.seq (.leaf) (.cond (.seq (.leaf) (.leaf)) (.leaf))) (.draw (odp [0, 1, 2, 3, 4, 5, 6, 7, 8, 9, 10, 11, 12, 14, 15, 16, 17, 18, 19, 20, 13, 21, 22, 23, 24, 25, 26] .nil) [200003, 200008, 200012]))) (.leaf)))))) (.draw (odp [0, 1, 2, 3, 4, 5, 6, 7, 8, 9, 10, 11, 12] .nil) [])))) (.leaf)))))) (.seq (.leaf) (.leaf)))))) [.int .i64 pages_0, .slice l_1 l_1l l_1c] K h0 = F29 pages_0 l_1 l_1l l_1c K h0 := by kernel_rfl

-- function 86
set_option maxRecDepth 100000 in
def F86 (d_0 : Addr) (n_1 : Int) (K : Value → Heap → Prop) (h0 : Heap) : Prop := (
  br (decide (n_1 ≥ (0 : Int)))
  (ldW .slice (Addr.add d_0 0) (fun (x1 : Option Addr × Nat × Nat) =>
  K (.bool (decide (n_1 < (((x1.2.1 : Nat) : Int))))) h0) h0)
  (K (.bool false) h0))
set_option maxRecDepth 100000 in
theorem F86_eq (d_0 : Addr) (n_1 : Int) (K : Value → Heap → Prop) (h0 : Heap) : funWE Tryz.prog 86 (.seq (.leaf) (.seq (.leaf) (.leaf))) [.pointer (some d_0), .int .i64 n_1] K h0 = F86 d_0 n_1 K h0 := by kernel_rfl

-- function 47
set_option maxRecDepth 100000 in
def F47 (d_0 : Addr) (n_1 : Int) (K : Value → Heap → Prop) (h0 : Heap) : Prop := (
  callT Tryz.prog 86 [.pointer (some d_0), .int .i64 n_1] [.sc .bool] (fun (r1 : Bool) h2 =>
  br (!r1)
  (K (.int .i64 0) h2)
  (ldW .slice (Addr.add d_0 0) (fun (x3 : Option Addr × Nat × Nat) =>
  ptrW x3.1 (fun a4 =>
  idxW n_1 x3.2.1 true (ldW .slice (Addr.add (Addr.add a4 (Int.toNat n_1 * 3)) 0) (fun (x5 : Option Addr × Nat × Nat) =>
  K (.int .i64 (((x5.2.1 : Nat) : Int))) h2) h2))) h2)) h0)
set_option maxRecDepth 100000 in
theorem F47_eq (d_0 : Addr) (n_1 : Int) (K : Value → Heap → Prop) (h0 : Heap) : funWE Tryz.prog 47 (.seq (.leaf) (.seq (.seq (.leaf) (.cond (.seq (.leaf) (.leaf)) (.leaf))) (.seq (.leaf) (.leaf)))) [.pointer (some d_0), .int .i64 n_1] K h0 = F47 d_0 n_1 K h0 := by kernel_rfl

-- function 49
set_option maxRecDepth 100000 in
def F49 (d_0 : Addr) (n_1 : Int) (K : Value → Heap → Prop) (h0 : Heap) : Prop := (
  callT Tryz.prog 86 [.pointer (some d_0), .int .i64 n_1] [.sc .bool] (fun (r1 : Bool) h2 =>
  br (!r1)
  (K (.int .i64 0) h2)
  (ldW .slice (Addr.add d_0 0) (fun (x3 : Option Addr × Nat × Nat) =>
  ptrW x3.1 (fun a4 =>
  idxW n_1 x3.2.1 true (ldW (.int .i64) (Addr.add (Addr.add a4 (Int.toNat n_1 * 3)) 1) (fun (x5 : Int) =>
  K (.int .i64 x5) h2) h2))) h2)) h0)
set_option maxRecDepth 100000 in
theorem F49_eq (d_0 : Addr) (n_1 : Int) (K : Value → Heap → Prop) (h0 : Heap) : funWE Tryz.prog 49 (.seq (.leaf) (.seq (.seq (.leaf) (.cond (.seq (.leaf) (.leaf)) (.leaf))) (.seq (.leaf) (.leaf)))) [.pointer (some d_0), .int .i64 n_1] K h0 = F49 d_0 n_1 K h0 := by kernel_rfl

-- function 90
set_option maxRecDepth 100000 in
def F90 (d_0 : Addr) (n_1 : Int) (K : Value → Heap → Prop) (h0 : Heap) : Prop := (
  callT Tryz.prog 47 [.pointer (some d_0), .int .i64 n_1] [.sc (.int .i64)] (fun (r1 : Int) h2 =>
  br (r1 == (0 : Int))
  (K (.int .i64 0) h2)
  (ldW .slice (Addr.add d_0 0) (fun (x3 : Option Addr × Nat × Nat) =>
  ptrW x3.1 (fun a4 =>
  idxW n_1 x3.2.1 true (ldW .bool (Addr.add (Addr.add a4 (Int.toNat n_1 * 3)) 2) (fun (x5 : Bool) =>
  br x5
  (K (.int .i64 2) h2)
  (ldW (.int .i64) (Addr.add d_0 1) (fun (x6 : Int) =>
  callT Tryz.prog 47 [.pointer (some d_0), .int .i64 n_1] [.sc (.int .i64)] (fun (r7 : Int) h8 =>
  (cellH h8 (Addr.add d_0 1) = some (.int .i64 x6) ∧ br (r7 == x6)
  (K (.int .i64 2) h8)
  (K (.int .i64 1) h8))) h2) h2)) h2))) h2)) h0)
set_option maxRecDepth 100000 in
theorem F90_eq (d_0 : Addr) (n_1 : Int) (K : Value → Heap → Prop) (h0 : Heap) : funWE Tryz.prog 90 (.seq (.leaf) (.seq (.seq (.leaf) (.cond (.seq (.leaf) (.leaf)) (.leaf))) (.seq (.seq (.draw (odp [0, 1, 2, 3, 4, 5, 6, 7, 8, 9, 10, 12, 13, 14, 15, 11, 16, 17] .nil) [200015]) (.cond (.seq (.leaf) (.leaf)) (.leaf))) (.seq (.leaf) (.leaf))))) [.pointer (some d_0), .int .i64 n_1] K h0 = F90 d_0 n_1 K h0 := by kernel_rfl

-- function 87
set_option maxRecDepth 100000 in
def F87 (d_0 : Addr) (e_1 : Int) (K : Value → Heap → Prop) (h0 : Heap) : Prop := (
  ldW .bool (Addr.add d_0 4) (fun (x1 : Bool) =>
  br x1
  (K (.int .i64 7) h0)
  (br (e_1 != (0 : Int))
  (K (.int .i64 e_1) h0)
  (ldW (.int .i64) (Addr.add d_0 2) (fun (x2 : Int) =>
  br (x2 == (0 : Int))
  (stW (Addr.add d_0 4) (.bool true) (fun h3 =>
  K (.int .i64 7) h3) h0)
  (cutT [] (fun (K4 : Unit → Heap → Prop) h8 =>
  ldW (.int .i64) (Addr.add d_0 2) (fun (x5 : Int) =>
  br (decide (x5 > (0 : Int)))
  (ldW (.int .i64) (Addr.add d_0 2) (fun (x6 : Int) =>
  stW (Addr.add d_0 2) (.int .i64 (IntKind.wrap .i64 (x6 - (1 : Int)))) (fun h7 =>
  K4 () h7) h8) h8)
  (K4 () h8)) h8) (fun (_s9 : Unit) _ h10 =>
  ldW (.int .i64) (Addr.add d_0 3) (fun (x11 : Int) =>
  stW (Addr.add d_0 3) (.int .i64 (IntKind.wrap .i64 (x11 + (1 : Int)))) (fun h12 =>
  K (.int .i64 0) h12) h10) h10) h0)) h0))) h0)
set_option maxRecDepth 100000 in
theorem F87_eq (d_0 : Addr) (e_1 : Int) (K : Value → Heap → Prop) (h0 : Heap) : funWE Tryz.prog 87 (.seq (.leaf) (.seq (.seq (.leaf) (.cond (.seq (.leaf) (.leaf)) (.leaf))) (.seq (.seq (.leaf) (.cond (.seq (.leaf) (.leaf)) (.leaf))) (.seq (.seq (.leaf) (.cond (.seq (.leaf) (.seq (.leaf) (.leaf))) (.leaf))) (.cut [] (.seq (.leaf) (.cond (.leaf) (.leaf))) (.seq (.leaf) (.seq (.leaf) (.leaf)))))))) [.pointer (some d_0), .int .i64 e_1] K h0 = F87 d_0 e_1 K h0 := by kernel_rfl

-- function 43
set_option maxRecDepth 100000 in
def F43 (d_0 : Addr) (n_1 : Int) (b_2 : Option Addr) (b_2l b_2c : Nat) (K : Value → Heap → Prop) (h0 : Heap) : Prop := (
  cutT [.sc (.int .i64)] (fun (K1 : Int → Heap → Prop) h10 =>
  cutT [.sc .bool] (fun (K2 : Bool → Heap → Prop) h5 =>
  callT Tryz.prog 86 [.pointer (some d_0), .int .i64 n_1] [.sc .bool] (fun (r3 : Bool) h4 =>
  br (!r3)
  (K2 true h4)
  (K2 ((((b_2l : Nat) : Int)) != (33 : Int)) h4)) h5) (fun (s6 : Bool) _ h7 =>
  br s6
  (K1 (1 : Int) h7)
  (callT Tryz.prog 90 [.pointer (some d_0), .int .i64 n_1] [.sc (.int .i64)] (fun (r8 : Int) h9 =>
  br (r8 == (2 : Int))
  (K1 (5 : Int) h9)
  (K1 (0 : Int) h9)) h7)) h10) (fun (s11 : Int) _ h12 =>
  callT Tryz.prog 87 [.pointer (some d_0), .int .i64 s11] [.sc (.int .i64)] (fun (r13 : Int) h14 =>
  br (r13 != (0 : Int))
  (K (.tuple #[.int .i64 0, .int .i64 r13]) h14)
  (cutT [] (fun (K15 : Unit → Heap → Prop) h78 =>
  ldW .slice (Addr.add d_0 0) (fun (x16 : Option Addr × Nat × Nat) =>
  ldW .slice (Addr.add d_0 0) (fun (x17 : Option Addr × Nat × Nat) =>
  ptrW x17.1 (fun a18 =>
  idxW n_1 x17.2.1 true (ldW .slice (Addr.add (Addr.add a18 (Int.toNat n_1 * 3)) 0) (fun (x19 : Option Addr × Nat × Nat) =>
  (newW (.cells #[] 68) (fun a20 h21 =>
  (apW Tryz.prog #[67, 67] #[.slice (some a20) 0 0, .slice x19.1 x19.2.1 x19.2.2] (fun b22 n23 c24 h25 =>
  (cellH h25 (Addr.add d_0 0) = some (.slice x16.1 x16.2.1 x16.2.2) ∧ newW (.cells #[] 5) (fun a26 h27 =>
  apW Tryz.prog #[68, 68] #[.slice (some a26) 0 0, .slice b_2 b_2l b_2c] (fun b28 n29 c30 h31 =>
  (cellH h31 (Addr.add d_0 0) = some (.slice x16.1 x16.2.1 x16.2.2) ∧ newW (.cells #[.slice b28 n29 c30] 68) (fun a32 h33 =>
  apW Tryz.prog #[67, 67] #[.slice b22 n23 c24, .slice (some a32) 1 1] (fun b34 n35 c36 h37 =>
  (cellH h37 (Addr.add d_0 0) = some (.slice x16.1 x16.2.1 x16.2.2) ∧ ptrW x16.1 (fun a38 =>
  idxW n_1 x16.2.1 true (stW (Addr.add (Addr.add a38 (Int.toNat n_1 * 3)) 0) (.slice b34 n35 c36) (fun h39 =>
  K15 () h39) h37)))) h33) h31)) h27) h25)) h21) ∧
  (newW (.cells #[] 5) (fun a40 h41 =>
  apW Tryz.prog #[67, 67] #[.slice (some a20) 0 0, .slice x19.1 x19.2.1 x19.2.2] (fun b42 n43 c44 h45 =>
  (cellH h45 (Addr.add d_0 0) = some (.slice x16.1 x16.2.1 x16.2.2) ∧ apW Tryz.prog #[68, 68] #[.slice (some a40) 0 0, .slice b_2 b_2l b_2c] (fun b46 n47 c48 h49 =>
  (cellH h49 (Addr.add d_0 0) = some (.slice x16.1 x16.2.1 x16.2.2) ∧ newW (.cells #[.slice b46 n47 c48] 68) (fun a50 h51 =>
  apW Tryz.prog #[67, 67] #[.slice b42 n43 c44, .slice (some a50) 1 1] (fun b52 n53 c54 h55 =>
  (cellH h55 (Addr.add d_0 0) = some (.slice x16.1 x16.2.1 x16.2.2) ∧ ptrW x16.1 (fun a56 =>
  idxW n_1 x16.2.1 true (stW (Addr.add (Addr.add a56 (Int.toNat n_1 * 3)) 0) (.slice b52 n53 c54) (fun h57 =>
  K15 () h57) h55)))) h51) h49)) h45)) h41) h21)) h78) ∧
  (newW (.cells #[] 5) (fun a58 h59 =>
  newW (.cells #[] 68) (fun a60 h61 =>
  apW Tryz.prog #[67, 67] #[.slice (some a60) 0 0, .slice x19.1 x19.2.1 x19.2.2] (fun b62 n63 c64 h65 =>
  (cellH h65 (Addr.add d_0 0) = some (.slice x16.1 x16.2.1 x16.2.2) ∧ apW Tryz.prog #[68, 68] #[.slice (some a58) 0 0, .slice b_2 b_2l b_2c] (fun b66 n67 c68 h69 =>
  (cellH h69 (Addr.add d_0 0) = some (.slice x16.1 x16.2.1 x16.2.2) ∧ newW (.cells #[.slice b66 n67 c68] 68) (fun a70 h71 =>
  apW Tryz.prog #[67, 67] #[.slice b62 n63 c64, .slice (some a70) 1 1] (fun b72 n73 c74 h75 =>
  (cellH h75 (Addr.add d_0 0) = some (.slice x16.1 x16.2.1 x16.2.2) ∧ ptrW x16.1 (fun a76 =>
  idxW n_1 x16.2.1 true (stW (Addr.add (Addr.add a76 (Int.toNat n_1 * 3)) 0) (.slice b72 n73 c74) (fun h77 =>
  K15 () h77) h75)))) h71) h69)) h65)) h61) h59) h78)) h78))) h78) h78) (fun (_s79 : Unit) _ h80 =>
  ldW .slice (Addr.add d_0 0) (fun (x81 : Option Addr × Nat × Nat) =>
  ptrW x81.1 (fun a82 =>
  idxW n_1 x81.2.1 true (ldW .slice (Addr.add (Addr.add a82 (Int.toNat n_1 * 3)) 0) (fun (x83 : Option Addr × Nat × Nat) =>
  K (.tuple #[.int .i64 (IntKind.wrap .i64 ((((x83.2.1 : Nat) : Int)) - (1 : Int))), .int .i64 0]) h80) h80))) h80) h14)) h12) h0)
set_option maxRecDepth 100000 in
theorem F43_eq (d_0 : Addr) (n_1 : Int) (b_2 : Option Addr) (b_2l b_2c : Nat) (K : Value → Heap → Prop) (h0 : Heap) : funWE Tryz.prog 43 (.seq (.leaf) (.seq (.leaf) (.cut [(8, .sc (.int .i64))] (.cut [(17, .sc .bool)] (.leaf) (.cond (.leaf) (.seq (.leaf) (.cond (.leaf) (.leaf))))) (.seq (.leaf) (.seq (.seq (.leaf) (.cond (.seq (.leaf) (.leaf)) (.leaf))) (.cut [] (.draw (odp [0, 1, 2, 3, 4, 6, 7, 8, 9, 10, 11, 12, 13, 16] (.fork 5 (.fork 14 (odp [15, 17, 18, 19, 20, 21, 22] .nil) (.one 15 (odp [14, 17, 18, 19, 20, 21, 22] .nil))) (.one 15 (odp [5, 14, 17, 18, 19, 20, 21, 22] .nil)))) [200003]) (.seq (.leaf) (.leaf)))))))) [.pointer (some d_0), .int .i64 n_1, .slice b_2 b_2l b_2c] K h0 = F43 d_0 n_1 b_2 b_2l b_2c K h0 := by kernel_rfl

-- function 51
set_option maxRecDepth 100000 in
def F51 (d_0 : Addr) (n_1 : Int) (page_2 : Int) (K : Value → Heap → Prop) (h0 : Heap) : Prop := (
  ldW .bool (Addr.add d_0 4) (fun (x1 : Bool) =>
  br x1
  (K (.tuple #[.slice none 0 0, .int .i64 7]) h0)
  (cutT [] (fun (K2 : Unit → Heap → Prop) h6 =>
  callT Tryz.prog 86 [.pointer (some d_0), .int .i64 n_1] [.sc .bool] (fun (r3 : Bool) h4 =>
  br (!r3)
  (K (.tuple #[.slice none 0 0, .int .i64 1]) h4)
  (br (decide (page_2 < (0 : Int)))
  (K (.tuple #[.slice none 0 0, .int .i64 1]) h4)
  (ldW (.int .i64) (Addr.add d_0 1) (fun (x5 : Int) =>
  br (decide (page_2 ≥ x5))
  (K (.tuple #[.slice none 0 0, .int .i64 1]) h4)
  (K2 () h4)) h4))) h6) (fun (_s7 : Unit) _ h8 =>
  ldW .slice (Addr.add d_0 0) (fun (x9 : Option Addr × Nat × Nat) =>
  ptrW x9.1 (fun a10 =>
  idxW n_1 x9.2.1 true (ldW .slice (Addr.add (Addr.add a10 (Int.toNat n_1 * 3)) 0) (fun (x11 : Option Addr × Nat × Nat) =>
  br (decide (page_2 ≥ (((x11.2.1 : Nat) : Int))))
  (K (.tuple #[.slice none 0 0, .int .i64 8]) h8)
  (ldW .slice (Addr.add d_0 0) (fun (x12 : Option Addr × Nat × Nat) =>
  ptrW x12.1 (fun a13 =>
  idxW n_1 x12.2.1 true (ldW .slice (Addr.add (Addr.add a13 (Int.toNat n_1 * 3)) 0) (fun (x14 : Option Addr × Nat × Nat) =>
  ptrW x14.1 (fun a15 =>
  idxW page_2 x14.2.1 true (ldW .slice (Addr.add a15 (Int.toNat page_2 * 1)) (fun (x16 : Option Addr × Nat × Nat) =>
  br ((((x16.2.1 : Nat) : Int)) == (0 : Int))
  (K (.tuple #[.slice none 0 0, .int .i64 6]) h8)
  (newW (.cells #[] 5) (fun a17 h18 =>
  ldW .slice (Addr.add d_0 0) (fun (x19 : Option Addr × Nat × Nat) =>
  ptrW x19.1 (fun a20 =>
  idxW n_1 x19.2.1 true (ldW .slice (Addr.add (Addr.add a20 (Int.toNat n_1 * 3)) 0) (fun (x21 : Option Addr × Nat × Nat) =>
  ptrW x21.1 (fun a22 =>
  idxW page_2 x21.2.1 true (ldW .slice (Addr.add a22 (Int.toNat page_2 * 1)) (fun (x23 : Option Addr × Nat × Nat) =>
  apW Tryz.prog #[68, 68] #[.slice (some a17) 0 0, .slice x23.1 x23.2.1 x23.2.2] (fun b24 n25 c26 h27 =>
  K (.tuple #[.slice b24 n25 c26, .int .i64 0]) h27) h18) h18))) h18))) h18) h8)) h8))) h8))) h8)) h8))) h8) h0)) h0)
set_option maxRecDepth 100000 in
theorem F51_eq (d_0 : Addr) (n_1 : Int) (page_2 : Int) (K : Value → Heap → Prop) (h0 : Heap) : funWE Tryz.prog 51 (.seq (.leaf) (.seq (.seq (.leaf) (.cond (.seq (.leaf) (.leaf)) (.leaf))) (.cut [] (.seq (.leaf) (.cond (.seq (.leaf) (.leaf)) (.leaf))) (.seq (.seq (.leaf) (.cond (.seq (.leaf) (.leaf)) (.leaf))) (.seq (.seq (.leaf) (.cond (.seq (.leaf) (.leaf)) (.leaf))) (.seq (.leaf) (.leaf))))))) [.pointer (some d_0), .int .i64 n_1, .int .i64 page_2] K h0 = F51 d_0 n_1 page_2 K h0 := by kernel_rfl

-- function 41
set_option maxRecDepth 100000 in
def F41 (d_0 : Addr) (n_1 : Int) (K : Value → Heap → Prop) (h0 : Heap) : Prop := (
  cutT [.sc (.int .i64)] (fun (K1 : Int → Heap → Prop) h4 =>
  callT Tryz.prog 86 [.pointer (some d_0), .int .i64 n_1] [.sc .bool] (fun (r2 : Bool) h3 =>
  br (!r2)
  (K1 (1 : Int) h3)
  (K1 (0 : Int) h3)) h4) (fun (s5 : Int) _ h6 =>
  callT Tryz.prog 87 [.pointer (some d_0), .int .i64 s5] [.sc (.int .i64)] (fun (r7 : Int) h8 =>
  br (r7 == (0 : Int))
  (ldW .slice (Addr.add d_0 0) (fun (x9 : Option Addr × Nat × Nat) =>
  ptrW x9.1 (fun a10 =>
  idxW n_1 x9.2.1 true (stLW (Addr.add a10 (Int.toNat n_1 * 3)) [.slice none 0 0, .int .i64 0, .bool false] (fun h11 =>
  K (.int .i64 r7) h11) h8))) h8)
  (K (.int .i64 r7) h8)) h6) h0)
set_option maxRecDepth 100000 in
theorem F41_eq (d_0 : Addr) (n_1 : Int) (K : Value → Heap → Prop) (h0 : Heap) : funWE Tryz.prog 41 (.seq (.leaf) (.seq (.leaf) (.cut [(5, .sc (.int .i64))] (.seq (.leaf) (.cond (.leaf) (.leaf))) (.seq (.leaf) (.seq (.seq (.leaf) (.cond (.leaf) (.leaf))) (.seq (.leaf) (.leaf))))))) [.pointer (some d_0), .int .i64 n_1] K h0 = F41 d_0 n_1 K h0 := by kernel_rfl

-- function 44
set_option maxRecDepth 100000 in
def F44 (d_0 : Addr) (K : Value → Heap → Prop) (h0 : Heap) : Prop := (
  callT Tryz.prog 87 [.pointer (some d_0), .int .i64 0] [.sc (.int .i64)] (fun (r1 : Int) h2 =>
  loopT [.sc (.int .i64)] (fun (s4 : Int) _ (K3 : Int → Heap → Prop) h5 =>
  cutT [] (fun (K6 : Unit → Heap → Prop) h8 =>
  ldW .slice (Addr.add d_0 0) (fun (x7 : Option Addr × Nat × Nat) =>
  br (decide (s4 < (((x7.2.1 : Nat) : Int))))
  (br (r1 == (0 : Int))
  (K6 () h8)
  (K (.int .i64 r1) h8))
  (K (.int .i64 r1) h8)) h8) (fun (_s9 : Unit) _ h10 =>
  ldW .slice (Addr.add d_0 0) (fun (x11 : Option Addr × Nat × Nat) =>
  ldW .slice (Addr.add d_0 0) (fun (x12 : Option Addr × Nat × Nat) =>
  ptrW x12.1 (fun a13 =>
  idxW s4 x12.2.1 true (ldW .slice (Addr.add (Addr.add a13 (Int.toNat s4 * 3)) 0) (fun (x14 : Option Addr × Nat × Nat) =>
  ptrW x11.1 (fun a15 =>
  idxW s4 x11.2.1 true (stW (Addr.add (Addr.add a15 (Int.toNat s4 * 3)) 1) (.int .i64 (((x14.2.1 : Nat) : Int))) (fun h16 =>
  K3 (IntKind.wrap .i64 (s4 + (1 : Int))) h16) h10))) h10))) h10) h10) h5) (0 : Int) h2) h0)
set_option maxRecDepth 100000 in
theorem F44_eq (d_0 : Addr) (K : Value → Heap → Prop) (h0 : Heap) : funWE Tryz.prog 44 (.seq (.leaf) (.seq (.leaf) (.seq (.seq (.leaf) (.block (.loop [(4, .sc (.int .i64))] (.cut [] (.seq (.leaf) (.cond (.leaf) (.leaf))) (.seq (.block (.draw (odp [0, 1, 2, 3, 4, 5, 6, 7, 8, 9, 10, 11, 12, 13, 14, 15, 16] .nil) [])) (.leaf)))))) (.seq (.leaf) (.leaf))))) [.pointer (some d_0)] K h0 = F44 d_0 K h0 := by kernel_rfl

-- function 11
set_option maxRecDepth 100000 in
def F11 (d_0 : Addr) (n_1 : Int) (K : Value → Heap → Prop) (h0 : Heap) : Prop := (
  stW (Addr.add d_0 2) (.int .i64 n_1) (fun h1 =>
  br (decide (n_1 < (0 : Int)))
  (stW (Addr.add d_0 2) (.int .i64 (-1)) (fun h2 =>
  K (.tuple #[]) h2) h1)
  (K (.tuple #[]) h1)) h0)
set_option maxRecDepth 100000 in
theorem F11_eq (d_0 : Addr) (n_1 : Int) (K : Value → Heap → Prop) (h0 : Heap) : funWE Tryz.prog 11 (.seq (.leaf) (.seq (.leaf) (.cond (.leaf) (.leaf)))) [.pointer (some d_0), .int .i64 n_1] K h0 = F11 d_0 n_1 K h0 := by kernel_rfl

end Go.Proofs.YthimfpkkdhpceaaGreatDoor.W
