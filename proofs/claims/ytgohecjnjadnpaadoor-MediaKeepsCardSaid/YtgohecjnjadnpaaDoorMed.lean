/-
  The contracts of package media.
-/
import Derived.Test.YtgohecjnjadnpaaDoorMedP
import Derived.Test.YtgohecjnjadnpaaDoorZnsP
import Derived.Test.YtgohecjnjadnpaaDoorWMed
import Derived.Test.YtgohecjnjadnpaaDoorErr4E
namespace Go.Proofs.YtgohecjnjadnpaaDoor.Med
open Go.Pl Go.Proofs.YtgohecjnjadnpaaDoor.W Go.Proofs.YtgohecjnjadnpaaDoor.Byts Go.Proofs.YtgohecjnjadnpaaDoor.As Go.Proofs.YtgohecjnjadnpaaDoor.Err Go.Proofs.YtgohecjnjadnpaaDoor.Head Go.Proofs.YtgohecjnjadnpaaDoor.HdP Go.Proofs.YtgohecjnjadnpaaDoor.Zns Go.Proofs.YtgohecjnjadnpaaDoor.ZnsP Go.Proofs.YtgohecjnjadnpaaDoor.Geo
abbrev geoV (z p g : Int) : Value := .agg #[.int .i64 z, .int .i64 p, .int .i64 g]
theorem wrap_v (op : ByteArray) (at_ c : Int) (h : Heap) : CallsH Tryd.prog 86 [.string op, .int .i64 at_, errV c] h fun r h' => ∃ l, ErrC h' r l c ∧ New h h' := by
  by_cases hc : c = 0
  · subst hc
    refine (wrap_nil op at_ h).mono ?_
    rintro r h' ⟨rfl, hh⟩; subst h'
    exact ⟨[], rfl, New.refl _⟩
  · refine (wrap_ok op at_ (errV c) [] c h hc rfl).mono ?_
    rintro r h' ⟨e, n⟩
    exact ⟨_, e, n⟩
theorem since {k b : Nat} {t : Tags} {h0 h h' : Heap} {D' : Dev} (n : New h0 h) (a : Acted k t h b D' h') : Acted k t h0 b D' h' := by
  obtain ⟨t', r, f⟩ := a
  exact ⟨t', r, (Fr.new0 n).trans f⟩
theorem till {k b : Nat} {t : Tags} {h h1 h2 : Heap} {D' : Dev} (a : Acted k t h b D' h1) (n : New h1 h2) : Acted k t h b D' h2 := by
  obtain ⟨t', r, f⟩ := a
  exact ⟨t', r.new n, f.trans (Fr.new0 n)⟩
theorem stays {k b : Nat} {t : Tags} {h : Heap} {D : Dev} (r : PRep k t h b D) : Acted k t h b D h := ⟨t, r, Fr.refl _ _ _⟩
theorem fits_ok {k b : Nat} {t : Tags} {D : Dev} (z p g : Int) (h : Heap) (r : PRep k t h b D) :
    CallsH Tryd.prog 83 [ptr b, geoV z p g] h fun v h' => v = .bool (rightB z p g && (((D.zs.length : Int) == z) && ((D.P : Int) == p))) ∧ New h h' := by
  refine fun_ok Geo.hm' Tryd.func83 (by kernel_rfl) (F83_eq _ _ _ _ _ h) ?_
  unfold F83
  refine new_of fun h1 b1 n1 s1 => ldAgg_blk (z, p, g) b1 ⟨rfl, rfl, rfl, trivial⟩ (call_of (Geo.right_ok z p g h1) ?_)
  rintro v h2 ⟨rfl, n2⟩
  have b2 := b1.new n2
  have r2 := r.new (n1.trans n2)
  have n02 := n1.trans n2
  refine ⟨_, rfl, br_of (fun hr => ?_) (fun hr => ⟨by rw [hr]; rfl, n02⟩), n2.ext⟩
  have c0 : cellH h2 (Addr.add ⟨h.size, 0, none⟩ 0) = some (.int .i64 z) := by rw [add_mk, cellH_blk b2]; rfl
  have c1 : cellH h2 (Addr.add ⟨h.size, 0, none⟩ 1) = some (.int .i64 p) := by rw [add_mk, cellH_blk b2]; rfl
  refine ld_of (c := .int .i64) z c0 (call_of (zones_ok h2 r2) ?_)
  rintro v h' ⟨rfl, hh⟩; subst h'
  refine ⟨(D.zs.length : Int), rfl, c0, br_of (fun hz => ?_) (fun hz => ⟨by rw [hr, hz]; rfl, n02⟩)⟩
  refine ld_of (c := .int .i64) p c1 (call_of (pages_ok h2 r2) ?_)
  rintro v h' ⟨rfl, hh⟩; subst h'
  exact ⟨(D.P : Int), rfl, c1, c0, by rw [hr, hz]; rfl, n02⟩
theorem put_ok {k b : Nat} {t : Tags} {D : Dev} {z p : Int} (hk : k ≠ 0) (gk : GOk z p D) (g zone : Int) (x : Hd) (hx : HdOk x) (ba : Option Addr) (bc : Nat) (bs : List Int) (h : Heap) (r : PRep k t h b D) (s : Sl8 h ba bc bs) :
    CallsH Tryd.prog 47 [ptr b, geoV z p g, .int .i64 zone, hdV x, .slice ba bs.length bc] h fun v h' => ∃ e l, v = .tuple #[.int .u32 (putM z p D zone x bs).2.1, e] ∧ ErrC h' e l (putM z p D zone x bs).2.2 ∧ Acted k t h b (putM z p D zone x bs).1 h' := by
  refine fun_ok Geo.hm' Tryd.func47 (by kernel_rfl) (F47_eq _ _ _ _ _ _ _ _ _ _ _ _ _ h) ?_
  unfold F47
  refine new_of fun h1 b1 n1 s1 => new_of fun h2 b2 n2 s2 => ldAgg_blk (z, p, g) (b1.new n2) ⟨rfl, rfl, rfl, trivial⟩ (call_of (Geo.of_ok z p g zone 0 h2 gk.zr gk.pr) ?_)
  rintro v h3 ⟨rfl, n3⟩
  have n03 := (n1.trans n2).trans n3
  refine ⟨_, rfl, br_of (fun hz => ?_) (fun hz => ?_)⟩
  · have hz : ofF z p zone 0 = 0 := by simpa using hz
    have hp : putM z p D zone x bs = (D, 0, 1) := by unfold putM; rw [if_pos hz]
    refine call_of (wrap_v _ zone 1 h3) ?_
    rintro v h4 ⟨l, he, n4⟩
    rw [hp]
    exact ⟨_, rfl, v, l, rfl, he, till (stays r) (n03.trans n4)⟩
  have hz : ¬ ofF z p zone 0 = 0 := by simpa using hz
  refine ldAgg_blk x (b2.new n3) ⟨rfl, rfl, rfl, rfl, trivial⟩ (call_of (Head.bytes_ok x hx ba bc bs h3 (s.new n03)) ?_)
  rintro v h4 ⟨a4, c4, rfl, g4, _⟩
  have n04 := n03.trans g4.new
  refine ⟨((a4, (bytesF x bs).1.length, c4), errV (bytesF x bs).2), rfl, errV_if _, br_of (fun he => ?_) (fun he => ?_)⟩
  · have he : (bytesF x bs).2 ≠ 0 := by simpa [errV_nil] using he
    have hp : putM z p D zone x bs = (D, 0, (bytesF x bs).2) := by unfold putM; rw [if_neg hz, if_pos he]
    refine call_of (wrap_v _ zone (bytesF x bs).2 h4) ?_
    rintro v h5 ⟨l, hl, n5⟩
    rw [hp]
    exact ⟨_, rfl, v, l, rfl, hl, till (stays r) (n04.trans n5)⟩
  have he : (bytesF x bs).2 = 0 := by simpa [errV_nil] using he
  have hlen : (bytesF x bs).1.length ≤ 1000 := by
    rcases bytesF_cases x bs with ⟨_, _, hl, e⟩ | ⟨h1, _⟩
    · rw [e]; have := pageL_len x hl; simp only []; omega
    · exact (h1 he).elim
  have im4 : Im .u8 (lay t h.size (0, 0)) h4 a4 (bytesF x bs).1 := ⟨g4.ar, fun hx q hq => by have := g4.at_ hx q hq; have := n03.size; rw [lay_ge (by omega)]⟩
  have r4 := PRep.lay r n04
  refine call_of (append_ok gk.ok zone a4 c4 (bytesF x bs).1 h4 r4 hlen im4) ?_
  rintro v h5 ⟨rfl, ac5'⟩
  have ac5 : Acted k t h b (D.append zone (bytesF x bs).1).1 h5 := Acted.before ac5' n04
  refine ⟨((D.append zone (bytesF x bs).1).2.1, errV (D.append zone (bytesF x bs).1).2.2), rfl, errV_if _, br_of (fun hf => ?_) (fun hf => ?_)⟩
  · have hf : (D.append zone (bytesF x bs).1).2.2 ≠ 0 := by simpa [errV_nil] using hf
    have hp : putM z p D zone x bs = ((D.append zone (bytesF x bs).1).1, 0, (D.append zone (bytesF x bs).1).2.2) := by unfold putM; rw [if_neg hz, if_neg (by simpa using he), if_pos hf]
    refine call_of (wrap_v _ zone (D.append zone (bytesF x bs).1).2.2 h5) ?_
    rintro v h6 ⟨l, hl, n6⟩
    rw [hp]
    exact ⟨_, rfl, v, l, rfl, hl, till ac5 n6⟩
  have hf : (D.append zone (bytesF x bs).1).2.2 = 0 := by simpa [errV_nil] using hf
  have hp : putM z p D zone x bs = ((D.append zone (bytesF x bs).1).1, ofF z p zone (D.append zone (bytesF x bs).1).2.1, 0) := by unfold putM; rw [if_neg hz, if_neg (by simpa using he), if_neg (by simpa using hf)]
  obtain ⟨t5, r5, f5⟩ := ac5'
  have b5 : Blk h5 h.size #[.int .i64 z, .int .i64 p, .int .i64 g] 85 := f5.blk (((b1.new n2).new n3).new g4.new) (by rw [lay_ge (Nat.le_refl _)]; exact fun e => hk e.symm)
  refine ldAgg_blk (z, p, g) b5 ⟨rfl, rfl, rfl, trivial⟩ (call_of (Geo.of_ok z p g zone _ h5 gk.zr gk.pr) ?_)
  rintro v h6 ⟨rfl, n6⟩
  rw [hp]
  exact ⟨_, rfl, .nilIface, [], rfl, rfl, till ac5 n6⟩
/-- A row stays where a block of another type is turned. -/
theorem got_only {h0 h h' : Heap} {g c : Nat} {a : Option Addr} {xs : List Int} {arr : Array Value} {T : TypeId} (r : Got .u8 5 h0 h a c xs) (hb : Blk h g arr T) (hT : T ≠ 5) (hg : g < h0.size) (o : Only g h h') : RowS h' 5 1 a xs.length c (xs.map (Value.int .u8)) := by
  rcases r.row with r' | ⟨h1, h2, h3, hb', hc⟩
  · refine .inl (r'.keep fun b cur _ hbb _ => o.same b fun e => ?_)
    subst e
    have h1 : h[b]? = _ := hb
    rw [show h[b]? = _ from hbb] at h1
    injection h1 with h1
    injection h1 with _ h1
    exact hT h1.symm
  · refine .inr ⟨h1, h2, h3, hb', fun j u hu => ?_⟩
    obtain ⟨q, q2, e1, hl, hc'⟩ := hc j u hu
    have hx : xs ≠ [] := fun e => by subst e; simp at hu
    have := r.at_ hx q (by rw [e1]; rfl)
    exact ⟨q, q2, e1, by rw [o.size]; exact hl, by rw [cellH_same (o.same q (by omega))]; exact hc'⟩
theorem errs {h h' : Heap} {g : Nat} {arr : Array Value} {T : TypeId} (hb : Blk h g arr T) (hT : T ≠ 177) (o : Only g h h') : ∀ {l : List (ByteArray × Int)} {v : Value} {c : Int}, ErrC h v l c → ErrC h' v l c
  | [], _, _, e => e
  | (_, _) :: _, _, _, ⟨hc, b, v', e1, e2, e3⟩ => ⟨hc, b, v', e1, e2.only o fun e => by
      subst e
      have h1 : h[b]? = _ := hb
      rw [show h[b]? = _ from e2] at h1
      injection h1 with h1
      injection h1 with _ h1
      exact hT h1.symm, errs hb hT o e3⟩
theorem read_byt {D : Dev} (o : DevOk D) (n q : Int) : Byt (D.read n q).1 := by
  unfold Dev.read
  split
  · exact fun x hx => by cases hx
  split
  · exact fun x hx => by cases hx
  split
  · exact fun x hx => by cases hx
  split
  · exact fun x hx => by cases hx
  · rw [List.getD_eq_getElem?_getD]
    cases hq : (D.at_ n).pages[q.toNat]? with
    | none => exact fun x hx => by cases hx
    | some pg => exact ((o.at_ n).page pg (List.mem_of_getElem? hq)).1
theorem get_ok {k b : Nat} {t : Tags} {D : Dev} {z p : Int} (gk : GOk z p D) (g a : Int) (ha : 0 ≤ a ∧ a < 4294967296) (h : Heap) (r : PRep k t h b D) :
    CallsH Tryd.prog 52 [ptr b, geoV z p g, .int .u32 a] h fun v h' => ∃ ba bc e l, v = .tuple #[hdV (getM z p D a).1, .slice ba (getM z p D a).2.1.length bc, e] ∧ ErrC h' e l (getM z p D a).2.2 ∧ Got .u8 5 h h' ba bc (getM z p D a).2.1 := by
  refine fun_ok Geo.hm' Tryd.func52 (by kernel_rfl) (F52_eq _ _ _ _ _ _ h) ?_
  unfold F52
  rw [zeroH]
  refine new_of fun h1 b1 n1 s1 => new_of fun h2 b2 n2 s2 => ldAgg_blk (z, p, g) (b1.new n2) ⟨rfl, rfl, rfl, trivial⟩ (call_of (Geo.at_ok z p g a h2 gk.zr gk.pr ha) ?_)
  rintro v h3 ⟨rfl, n3⟩
  have n03 := (n1.trans n2).trans n3
  have b3 : Blk h3 h1.size #[.int .u8 0, .int .u32 0, .int .u32 0, .int .u32 0] 24 := b2.new n3
  refine ⟨((atF z p a).1, (atF z p a).2.1, (atF z p a).2.2), rfl, br_of (fun hz => ?_) (fun hz => ?_)⟩
  · have hz : (atF z p a).2.2 = false := by simpa using hz
    have hp : getM z p D a = (hd0, [], 1) := by unfold getM; rw [if_pos hz]
    refine call_of (wrap_v _ _ 1 h3) ?_
    rintro v h4 ⟨l, he, n4⟩
    refine ⟨v, rfl, stL_blk (b3.new n4) (Nat.le_refl 4) fun h5 b5 o5 => ?_⟩
    rw [setsA_all (by rfl)] at b5
    have n5 : New h h5 := o5.upd.new (n03.trans n4) (by omega)
    refine ldAgg_blk hd0 b5 ⟨rfl, rfl, rfl, rfl, trivial⟩ ?_
    rw [hp]
    exact ⟨none, 0, v, l, rfl, errs (b3.new n4) (by decide) o5 he, Got.nil _ _ n5⟩
  have hz : (atF z p a).2.2 = true := by simpa using hz
  refine call_of (read_ok gk.ok (atF z p a).1 (atF z p a).2.1 h3 (r.new n03)) ?_
  rintro v h4 ⟨a4, c4, rfl, g4⟩
  refine ⟨((a4, (D.read (atF z p a).1 (atF z p a).2.1).1.length, c4), errV (D.read (atF z p a).1 (atF z p a).2.1).2), rfl, errV_if _, br_of (fun he => ?_) (fun he => ?_)⟩
  · have he : (D.read (atF z p a).1 (atF z p a).2.1).2 ≠ 0 := by simpa [errV_nil] using he
    have hp : getM z p D a = (hd0, [], (D.read (atF z p a).1 (atF z p a).2.1).2) := by unfold getM; rw [if_neg (by rw [hz]; simp), if_pos he]
    refine call_of (wrap_v _ _ (D.read (atF z p a).1 (atF z p a).2.1).2 h4) ?_
    rintro v h5 ⟨l, hl, n5⟩
    have b5 := (b3.new g4.new).new n5
    refine ⟨v, rfl, stL_blk b5 (Nat.le_refl 4) fun h6 b6 o6 => ?_⟩
    rw [setsA_all (by rfl)] at b6
    have n6 : New h h6 := o6.upd.new ((n03.trans g4.new).trans n5) (by omega)
    refine ldAgg_blk hd0 b6 ⟨rfl, rfl, rfl, rfl, trivial⟩ ?_
    rw [hp]
    exact ⟨none, 0, v, l, rfl, errs b5 (by decide) o6 hl, Got.nil _ _ n6⟩
  have he : (D.read (atF z p a).1 (atF z p a).2.1).2 = 0 := by simpa [errV_nil] using he
  have hp : getM z p D a = readF (D.read (atF z p a).1 (atF z p a).2.1).1 := by unfold getM; rw [if_neg (by rw [hz]; simp), if_neg (by simpa using he)]
  have hbyt : Byt (D.read (atF z p a).1 (atF z p a).2.1).1 := read_byt gk.ok _ _
  rw [hp]
  generalize (D.read (atF z p a).1 (atF z p a).2.1).1 = pg at g4 hbyt ⊢
  refine call_of (Head.read_ok a4 c4 pg h4 (Sl8.got g4 hbyt)) ?_
  rintro v h5 ⟨a5, c5, rfl, g5⟩
  refine ⟨((readF pg).1, (a5, (readF pg).2.1.length, c5), errV (readF pg).2.2), rfl, new_stL rfl fun h6 b6 n6 s6 => ldAgg_blk (readF pg).1 b6 ⟨rfl, rfl, rfl, rfl, trivial⟩ (call_of (wrap_v _ _ (readF pg).2.2 h6) ?_)⟩
  rintro v h7 ⟨l, hl, n7⟩
  have b7 := b6.new n7
  have n47 := (g4.new.trans g5.new).trans (n6.trans n7)
  have b37 := b3.new n47
  refine ⟨v, rfl, by rw [add_mk, cellH_blk b7]; rfl, by rw [add_mk, cellH_blk b7]; rfl, by rw [add_mk, cellH_blk b7]; rfl, by rw [add_mk, cellH_blk b7]; rfl, stL_blk b37 (Nat.le_refl 4) fun h8 b8 o8 => ?_⟩
  rw [setsA_all (by rfl)] at b8
  refine ldAgg_blk (readF pg).1 b8 ⟨rfl, rfl, rfl, rfl, trivial⟩ ?_
  have g7 : Got .u8 5 h4 h7 a5 c5 (readF pg).2.1 := g5.after (n6.trans n7)
  have hlt := b3.lt
  have hs4 := g4.new.size
  refine ⟨a5, c5, v, l, rfl, errs b37 (by decide) o8 hl, ⟨got_only g7 b37 (by decide) (by have := b3.lt; omega) o8, o8.upd.new (n03.trans n47) (by omega), fun hx q hq => by have := g5.at_ hx q hq; have := n03.size; omega⟩⟩
/- GOING THROUGH ALL ADDRESSES. -/
theorem yield_of {P : Program} {T : Ty} {l : Nat} {args : List Value} {F : T.T → Heap → Prop} {h : Heap} {R : Bool → Heap → Prop} (hY : YieldH P l args h R) (hR : ∀ b h', R b h' → ∃ s : T.T, Value.bool b = T.val s ∧ F s h') : callW P T (.func (.yield l) #[] #[]) args F h := YieldH.mono hY hR
def preZ (p : Int) (D : Dev) (n : Nat) : List Int := (List.range n).flatMap (addrs p D)
def preI (p : Int) (D : Dev) (n i : Nat) : List Int := preZ p D n ++ (List.range i).map fun (j : Nat) => (n : Int) * p + j + 1
theorem preI_zero (p : Int) (D : Dev) (n : Nat) : preI p D n 0 = preZ p D n := by simp [preI]
theorem preI_succ (p : Int) (D : Dev) (n i : Nat) : preI p D n (i + 1) = preI p D n i ++ [(n : Int) * p + i + 1] := by unfold preI; rw [List.range_succ, List.map_append, ← List.append_assoc]; rfl
theorem preZ_succ (p : Int) (D : Dev) (n : Nat) : preZ p D (n + 1) = preI p D n (D.point (n : Int)) := by
  unfold preZ preI
  rw [List.range_succ, List.flatMap_append]
  unfold preZ addrs
  simp
theorem preI_len {z p : Int} {D : Dev} (g : GOk z p D) (n i : Nat) : (preI p D n i).length ≤ n * 16 + i := by
  have hz : ∀ n, (preZ p D n).length ≤ n * 16 := fun n => by
    induction n with
    | zero => simp [preZ]
    | succ n ih =>
      have := g.pt (n : Int)
      have := g.pr
      rw [preZ_succ]
      unfold preI
      rw [List.length_append, List.length_map, List.length_range]; omega
  have := hz n
  unfold preI
  rw [List.length_append, List.length_map, List.length_range]; omega
structure Sees (k : Nat) (h : Heap) (c0 c1 b : Nat) (z p g : Int) (D : Dev) : Prop where
  geo : Blk h c0 #[.int .i64 z, .int .i64 p, .int .i64 g] 85
  ptr : cellH h ⟨c1, 0, none⟩ = some (ptr b)
  dev : ∃ t, PRep k t h b D
theorem all_ok (b : Nat) (z p g : Int) (h : Heap) :
    CallsH Tryd.prog 85 [ptr b, geoV z p g] h fun v h' => v = .func (.func 104) #[] #[.pointer (some ⟨h.size + 1, 0, none⟩), .pointer (some ⟨h.size, 0, none⟩)] ∧ Blk h' h.size #[ptr b] 47 ∧ Blk h' (h.size + 1) #[.int .i64 z, .int .i64 p, .int .i64 g] 85 ∧ New h h' ∧ h'.size = h.size + 2 := by
  refine fun_ok Geo.hm' Tryd.func85 (by kernel_rfl) (F85_eq _ _ _ _ _ h) ?_
  unfold F85
  exact new_of fun h1 b1 n1 s1 => new_of fun h2 b2 n2 s2 => by
    rw [s1] at b2 ⊢
    exact ⟨rfl, b1.new n2, b2, n1.trans n2, by omega⟩
theorem range_all {Inner : Nat → LoopO → TT [.sc (.int .u32)] → (Bool → Heap → Prop) → Heap → Prop} {E : Nat → LoopO → Heap → Prop} {h : Heap} {k c0 c1 b : Nat} {z p g : Int} {D : Dev} (gk : GOk z p D)
    (J : Heap → Nat → List Int → Heap → Prop)
    (j0 : ∀ hq l, New h hq → h.size ≤ l → l < hq.size → J hq l [] hq)
    (jo : ∀ hq l pre h1 h2, J hq l pre h1 → Only l h1 h2 → J hq l pre h2)
    (jn : ∀ hq l pre h1 h2, J hq l pre h1 → New h1 h2 → J hq l pre h2)
    (jc : ∀ hq l pre h1, J hq l pre h1 → Sees k h1 c0 c1 b z p g D)
    (hI : ∀ hq l o Y pre (x : Int) h1, 0 ≤ x ∧ x < 4294967296 → pre.length ≤ 500 → J hq l pre h1 → (∀ h2, J hq l (pre ++ [x]) h2 → roundEnd l (LoopO.rdy o) (Y true) h2) → Inner l o x Y h1)
    (hE : ∀ hq l o h3, (∀ N : Heap → Prop, (∀ h4, J hq l (alls z p D) h4 → N h4) → roundDone l (LoopO.rdy o) N h3) → E l o h3) :
    rangeW Tryd.prog 104 [] [.pointer (some ⟨c0, 0, none⟩), .pointer (some ⟨c1, 0, none⟩)] [.sc (.int .u32)] (fun l o s Y h1 => roundIn l o (Inner l o s Y) h1) E h := by
  rintro l o ho hl0 hy
  have nb : New h ((h.push (.deferred (some []))).push o.rdy) := (New.push _ _).trans (New.push _ _)
  have hrdy : ((h.push (.deferred (some []))).push o.rdy)[h.size + 1]? = some o.rdy := by rw [Array.getElem?_push, if_pos (by simp)]
  have hsz : ((h.push (.deferred (some []))).push o.rdy).size = h.size + 2 := by simp
  rw [← hl0] at hrdy
  generalize (h.push (.deferred (some []))).push o.rdy = hb0 at *
  refine fun_ok Geo.hm' Tryd.func104 (by kernel_rfl) (F104_eq _ _ _ _ hb0) ?_
  unfold F104
  have s0 := jc _ _ _ _ (j0 hb0 l nb (by omega) (by omega))
  have hzr := gk.zr
  have hpr := gk.pr
  refine ldAgg_blk (z, p, g) s0.geo ⟨rfl, rfl, rfl, trivial⟩ (call_of (Geo.log_ok z p g hb0 (by omega) (by omega)) ?_)
  rintro v h1 ⟨rfl, n1⟩
  have hs1 := n1.size
  have r1 : h1[l]? = some o.rdy := (n1.same l (by omega)).trans hrdy
  refine ⟨z - 2, rfl, fun (s : Int) h' => ∃ n : Nat, s = n ∧ (n : Int) ≤ z - 2 ∧ J h1 l (preZ p D n) h' ∧ h'[l]? = some o.rdy, fun (s : Int) _ => (z - 2 - s).toNat, ⟨0, rfl, (by first | omega | (dsimp only; omega) | (simp only []; omega)), j0 h1 l (nb.trans n1) (by omega) (by omega), r1⟩, ?_⟩
  rintro s j h2 ⟨n, rfl, hn, J2, r2⟩
  refine br_of (fun hlt => ?_) (fun hlt => ?_)
  · have hlt : (n : Int) < z - 2 := of_decide_eq_true hlt
    have s2 := jc _ _ _ _ J2
    obtain ⟨t2, d2⟩ := s2.dev
    refine ld_of (c := .ptr) (some ⟨b, 0, none⟩) s2.ptr (call_of (point_ok n h2 d2) ?_)
    rintro v h3 ⟨rfl, n3⟩
    have J3 := jn _ _ _ _ _ J2 n3
    have r3 : h3[l]? = some o.rdy := (n3.same l (Array.getElem?_eq_some_iff.1 r2).1).trans r2
    have hpt := gk.pt (n : Int)
    refine ⟨(D.point n : Int), rfl, fun (s : Int) h' => ∃ i : Nat, s = i ∧ i ≤ D.point n ∧ J h1 l (preI p D n i) h' ∧ h'[l]? = some o.rdy, fun (s : Int) _ => ((D.point n : Int) - s).toNat, ⟨0, rfl, Nat.zero_le _, by rw [preI_zero]; exact J3, r3⟩, ?_⟩
    rintro s j2 h4 ⟨i, rfl, hi, J4, r4⟩
    refine br_of (fun hlt2 => ?_) (fun hlt2 => ?_)
    · have hlt2 : (i : Int) < (D.point n : Int) := of_decide_eq_true hlt2
      have s4 := jc _ _ _ _ J4
      refine ldAgg_blk (z, p, g) s4.geo ⟨rfl, rfl, rfl, trivial⟩ (call_of (Geo.of_ok z p g n i h4 gk.zr gk.pr) ?_)
      rintro v h5 ⟨rfl, n5⟩
      have J5 := jn _ _ _ _ _ J4 n5
      have r5 : h5[l]? = some o.rdy := (n5.same l (Array.getElem?_eq_some_iff.1 r4).1).trans r4
      obtain ⟨eo, _⟩ := of_at (z := z) gk.pr (zone := (n : Int)) (page := (i : Int)) ⟨by omega, by omega⟩
      have h0 : 0 ≤ (n : Int) * p := Int.mul_nonneg (by omega) (by omega)
      have h9 : (n : Int) * p ≤ (n : Int) * 16 := Int.mul_le_mul_of_nonneg_left (by omega) (by omega)
      rw [eo]
      refine ⟨((n : Int) * p + (i : Int) + 1 : Int), rfl, ?_⟩
      have hlen := preI_len gk n i
      have hY := hy ((n : Int) * p + (i : Int) + 1 : Int) h5 (fun t h' => t = true ∧ J h1 l (preI p D n (i + 1)) h' ∧ h'[l]? = some o.rdy) r5 ⟨r5, fun h6 o6 _ => hI h1 l o _ (preI p D n i) ((n : Int) * p + (i : Int) + 1 : Int) h6 ⟨by omega, by omega⟩ (by omega) (jo _ _ _ _ _ J5 o6) fun h7 J7 h8 o8 r8 => ⟨rfl, by rw [preI_succ]; exact jo _ _ _ _ _ J7 o8, r8⟩⟩
      refine yield_of hY ?_
      rintro t h6 ⟨rfl, J6, r6⟩
      have ez : IntKind.wrap .i64 ((i : Int) + 1) = ((i + 1 : Nat) : Int) := (by first | (rw [wr64 (by omega) (by omega)]; omega) | (simp only [IntKind.wrap_i64]; omega))
      refine ⟨true, rfl, br_f rfl ?_⟩
      rw [ez]
      exact ⟨⟨i + 1, rfl, by omega, J6, r6⟩, (by first | omega | (dsimp only; omega) | (simp only []; omega))⟩
    · have hlt2 : ¬ (i : Int) < (D.point n : Int) := of_decide_eq_false hlt2
      have : i = D.point n := by omega
      subst this
      rw [← preZ_succ] at J4
      have ez : IntKind.wrap .i64 ((n : Int) + 1) = ((n + 1 : Nat) : Int) := (by first | (rw [wr64 (by omega) (by omega)]; omega) | (simp only [IntKind.wrap_i64]; omega))
      rw [ez]
      exact ⟨⟨n + 1, rfl, by omega, J4, r4⟩, (by first | omega | (dsimp only; omega) | (simp only []; omega))⟩
  · have hlt : ¬ (n : Int) < z - 2 := of_decide_eq_false hlt
    have e : n = (z - 2).toNat := by omega
    subst e
    exact hE h1 l o h2 fun N hN => ⟨r2, fun h4 o4 => hN h4 (jo _ _ _ _ _ J2 o4)⟩
/- SCAN. -/
abbrev TPg : TypeId := 109
def pgV (y : Pg) : List Value := [.int .u32 y.1, .int .u8 y.2.1, .int .u32 y.2.2.1, .int .u32 y.2.2.2.1, .int .u32 y.2.2.2.2]
def pgs (l : List Pg) : List Value := (l.map pgV).flatten
theorem pgs_app (l : List Pg) (y : Pg) : pgs (l ++ [y]) = pgs l ++ pgV y := by simp [pgs]
theorem pgs_len (l : List Pg) : (pgs l).length = l.length * 5 := by
  induction l with
  | nil => rfl
  | cons z l ih =>
    have : pgs (z :: l) = pgV z ++ pgs l := rfl
    rw [this, List.length_append, ih, List.length_cons, show (pgV z).length = 5 from rfl]; omega
theorem pgs_get (l : List Pg) : ∀ (i : Nat) (y : Pg), l[i]? = some y → ∀ j, j < 5 → (pgs l)[i * 5 + j]? = (pgV y)[j]? := by
  induction l with
  | nil => intro i y hy; simp at hy
  | cons z l ih =>
    intro i y hy j hj
    have e : pgs (z :: l) = pgV z ++ pgs l := rfl
    have hl : (pgV z).length = 5 := rfl
    rw [e]
    cases i with
    | zero =>
      obtain rfl : z = y := by simpa using hy
      rw [List.getElem?_append_left (by rw [hl]; omega), Nat.zero_mul, Nat.zero_add]
    | succ i =>
      rw [List.getElem?_append_right (by rw [hl]; omega), hl, ← ih i y (by simpa using hy) j hj]
      congr 1; omega
theorem pgs_cell {l : List Pg} {u : Value} (hu : u ∈ pgs l) : u.oneCell' = true := by
  unfold pgs at hu
  rw [List.mem_flatten] at hu
  obtain ⟨w, hw, hu⟩ := hu
  obtain ⟨y, _, rfl⟩ := List.mem_map.1 hw
  unfold pgV at hu
  simp only [List.mem_cons, List.not_mem_nil, or_false] at hu
  rcases hu with rfl | rfl | rfl | rfl | rfl <;> rfl
theorem apP : apB Tryd.prog 95 TPg 5 20 = true := by kernel_rfl
theorem zP : zeroC Tryd.prog 95 = #[.slice none 0 0] := by kernel_rfl
theorem page_push {base lc : Nat} {la : Option Addr} {l : List Pg} {h : Heap} (y : Pg) (ow : OwnH h base TPg 5 la l.length lc (pgs l)) (hl : l.length ≤ 1000) (hbase : base ≤ h.size) {F : Option Addr → Nat → Nat → Heap → Prop}
    (hF : ∀ a' c' h', OwnH h' base TPg 5 a' (l ++ [y]).length c' (pgs (l ++ [y])) → UpdO (blkOf la) h h' → F a' (l ++ [y]).length c' h') :
    newW (.cells #[.int .u32 y.1, .int .u8 y.2.1, .int .u32 y.2.2.1, .int .u32 y.2.2.2.1, .int .u32 y.2.2.2.2] TPg) (fun q h' => apW Tryd.prog #[95, 95] #[.slice la l.length lc, .slice (some q) 1 1] F h') h := by
  refine new_of fun h1 b1 n1 s1 => ?_
  have ow1 : OwnH h1 base TPg 5 la l.length lc (pgs l) := ow.keep fun g _ _ hg _ => n1.same g hg.lt
  refine ap_own apP (by decide) ow1 (pgV y) rfl (fun j u hu => ?_) (fun u hu => pgs_cell (l := [y]) (by simpa [pgs] using hu)) (by simp only [maxLen]; omega) (by omega) (by omega) fun a' c' h2 o2 u2 => ?_
  · rw [add_mk, cellH_blk b1, Nat.zero_add]
    have hj : j < 5 := (List.getElem?_eq_some_iff.1 hu).1
    have hj' : j = 0 ∨ j = 1 ∨ j = 2 ∨ j = 3 ∨ j = 4 := by omega
    rcases hj' with rfl | rfl | rfl | rfl | rfl <;> exact hu
  · have el : (l ++ [y]).length = l.length + 1 := by simp
    rw [← el] at o2 ⊢
    rw [← pgs_app l y] at o2
    exact hF a' c' h2 o2 ⟨Nat.le_trans n1.size u2.size, fun b hb hne => (u2.same b (Nat.lt_of_lt_of_le hb n1.size) hne).trans (n1.same b hb)⟩
/-- Going on, with a list in the variable B. -/
structure JL (B : Nat) (TL TE : TypeId) (size : Nat) (len : List Int → Nat) (vs : List Int → List Value) (hq : Heap) (l : Nat) (pre : List Int) (h' : Heap) : Prop where
  sizes : hq.size ≤ h'.size
  same : ∀ b, b < hq.size → b ≠ B → b ≠ l → h'[b]? = hq[b]?
  var : ∃ a lc, Blk h' B #[.slice a (len pre) lc] TL ∧ OwnH h' hq.size TE size a (len pre) lc (vs pre)
  lB : B < l
  lq : l < hq.size
theorem JL.only {B l size : Nat} {TL TE : TypeId} {len : List Int → Nat} {vs : List Int → List Value} {hq h1 h2 : Heap} {pre : List Int} (j : JL B TL TE size len vs hq l pre h1) (o : Only l h1 h2) : JL B TL TE size len vs hq l pre h2 := by
  obtain ⟨a, lc, hb, ow⟩ := j.var
  have hl := j.lB
  have hq := j.lq
  exact ⟨by rw [o.size]; exact j.sizes, fun b hb h1 h2 => (o.same b h2).trans (j.same b hb h1 h2), ⟨a, lc, hb.only o (by omega), ow.keep fun g _ hg _ _ => o.same g (by omega)⟩, hl, hq⟩
theorem JL.new {B l size : Nat} {TL TE : TypeId} {len : List Int → Nat} {vs : List Int → List Value} {hq h1 h2 : Heap} {pre : List Int} (j : JL B TL TE size len vs hq l pre h1) (o : New h1 h2) : JL B TL TE size len vs hq l pre h2 := by
  obtain ⟨a, lc, hb, ow⟩ := j.var
  have hs := j.sizes
  exact ⟨Nat.le_trans hs o.size, fun b hb h1 h2 => (o.same b (by omega)).trans (j.same b hb h1 h2), ⟨a, lc, hb.new o, ow.keep fun g _ _ hg _ => o.same g hg.lt⟩, j.lB, j.lq⟩
theorem JL.dev {k b B l size : Nat} {t : Tags} {D : Dev} {TL TE : TypeId} {len : List Int → Nat} {vs : List Int → List Value} {h hq h1 : Heap} {pre : List Int} (r : PRep k t h b D) (n : New h hq) (j : JL B TL TE size len vs hq l pre h1) (hB : h.size ≤ B) : PRep k (lay t h.size (0, 0)) h1 b D := by
  have hl := j.lB
  exact r.fr (S := fun _ => True) ⟨Nat.le_trans n.size j.sizes, fun c hc => lay_lt hc, fun c hc _ => (j.same c (Nat.lt_of_lt_of_le hc n.size) (by omega) (by omega)).trans (n.same c hc)⟩ (fun _ _ => trivial) fun _ => trivial
theorem JL.stay {B l size : Nat} {TL TE : TypeId} {len : List Int → Nat} {vs : List Int → List Value} {hq h1 : Heap} {pre : List Int} {x : Int} (j : JL B TL TE size len vs hq l pre h1) (hl : len (pre ++ [x]) = len pre) (hv : vs (pre ++ [x]) = vs pre) : JL B TL TE size len vs hq l (pre ++ [x]) h1 := by
  refine ⟨j.sizes, j.same, ?_, j.lB, j.lq⟩
  rw [hl, hv]; exact j.var
theorem JL.grown {B l size n' : Nat} {TL TE : TypeId} {len : List Int → Nat} {vs : List Int → List Value} {hq h1 h2 : Heap} {pre : List Int} {x : Int} {a a' : Option Addr} {lc c' : Nat} {F : Heap → Prop} (j : JL B TL TE size len vs hq l pre h1) (hb : Blk h1 B #[.slice a (len pre) lc] TL) (ow : OwnH h1 hq.size TE size a (len pre) lc (vs pre))
    (u : UpdO (blkOf a) h1 h2) (hl : len (pre ++ [x]) = n') (o2 : OwnH h2 hq.size TE size a' n' c' (vs (pre ++ [x]))) (hF : ∀ h3, JL B TL TE size len vs hq l (pre ++ [x]) h3 → F h3) : stW ⟨B, 0, none⟩ (.slice a' n' c') F h2 := by
  subst hl
  have hBl := j.lB
  have hlq := j.lq
  have hs := j.sizes
  have hga : ∀ g, blkOf a = some g → hq.size ≤ g := fun g hg => by
    rcases ow.row.2 with ⟨rfl, _⟩ | ⟨g', cur, rfl, hg', _⟩
    · cases hg
    · injection hg with hg; change g' = g at hg; omega
  have b2 : Blk h2 B #[.slice a (len pre) lc] TL := (u.same B hb.lt (fun e => by have := hga B e.symm; omega)).trans hb
  refine st_blk b2 (by simp) fun h3 b3 o3 => hF h3 ⟨by rw [o3.size]; have := u.size; omega, fun b hb h1 h2 => ?_, ⟨a', c', b3, o2.keep fun g _ hg _ _ => o3.same g (by omega)⟩, hBl, hlq⟩
  rw [o3.same b h1, u.same b (by omega) (fun e => by have := hga b e.symm; omega), j.same b hb h1 h2]
theorem Tk_blk {n : Nat} {h h' : Heap} (t : Taken n h h') {b : Nat} {arr : Array Value} {T : TypeId} (hb : Blk h b arr T) : h'[b]? = h[b]? := by
  rcases t.same b with e | ⟨_, e, _⟩
  · exact e
  · have hb' : h[b]? = some (.cells arr T) := hb
    rw [e] at hb'; cases hb'
theorem Tk_low {n : Nat} {h h' : Heap} (t : Taken n h h') {b : Nat} (hb : b < n) : h'[b]? = h[b]? := by
  rcases t.same b with e | ⟨h1, _⟩
  · exact e
  · omega
theorem fl_le (z p : Int) (D : Dev) (l : List Int) : (l.flatMap (scan1 z p D)).length ≤ l.length := by
  induction l with
  | nil => simp
  | cons x l ih =>
    rw [List.flatMap_cons, List.length_append, List.length_cons]
    have : (scan1 z p D x).length ≤ 1 := by unfold scan1; split <;> simp
    omega
def PgsAt (h h' : Heap) (v : Value) (L : List Pg) : Prop := ∃ a lc, v = .slice a L.length lc ∧ OwnH h' h.size TPg 5 a L.length lc (pgs L)
theorem scan_ok {k b : Nat} {t : Tags} {D : Dev} {z p : Int} (gk : GOk z p D) (g : Int) (h : Heap) (r : PRep k t h b D) :
    CallsH Tryd.prog 46 [ptr b, geoV z p g] h fun v h' => PgsAt h h' v (scanM z p D) ∧ New h h' := by
  refine fun_ok Geo.hm' Tryd.func46 (by kernel_rfl) (F46_eq _ _ _ _ _ h) ?_
  unfold F46
  rw [zP, zeroH]
  refine new_of fun h1 b1 n1 s1 => new_of fun h2 b2 n2 s2 => new_of fun h3 b3 n3 s3 => ?_
  have b13 := (b1.new n2).new n3
  have b23 := b2.new n3
  have n03 := (n1.trans n2).trans n3
  refine ld_of (c := .ptr) (some ⟨b, 0, none⟩) (by rw [cellH_blk b13]; rfl) (ldAgg_blk (z, p, g) b23 ⟨rfl, rfl, rfl, trivial⟩ (call_of (all_ok b z p g h3) ?_))
  rintro v h4 ⟨rfl, b41, b42, n4, s4⟩
  refine ⟨_, rfl, ?_⟩
  have n04 := n03.trans n4
  refine range_all (k := k) (b := b) (c0 := h3.size + 1) (c1 := h3.size) (g := g) gk
    (fun hq l pre h5 => JL h2.size 95 TPg 5 (fun pre => (pre.flatMap (scan1 z p D)).length) (fun pre => pgs (pre.flatMap (scan1 z p D))) hq l pre h5 ∧ New h4 hq ∧ h4.size ≤ l)
    (fun hq l nq h5 h6 => ⟨⟨Nat.le_refl _, fun _ _ _ _ => rfl, ⟨none, 0, (b3.new n4).new nq, OwnH.nil _ _ _ _⟩, by omega, h6⟩, nq, h5⟩)
    (fun hq l pre h5 h6 j o => ⟨j.1.only o, j.2⟩) (fun hq l pre h5 h6 j o => ⟨j.1.new o, j.2⟩)
    (fun hq l pre h5 j => ⟨(j.1.same (h3.size + 1) (by have := j.2.1.size; omega) (by omega) (by have := j.2.2; omega)).trans (b42.new j.2.1),
      by rw [cellH_blk ((j.1.same h3.size (by have := j.2.1.size; omega) (by omega) (by have := j.2.2; omega)).trans (b41.new j.2.1))]; rfl,
      ⟨_, JL.dev r (n04.trans j.2.1) j.1 (by omega)⟩⟩) ?_ ?_
  · rintro hq l o Y pre x h5 hx hpl ⟨j, nq, hl⟩ hend
    have d5 := JL.dev r (n04.trans nq) j (by omega)
    have hq2 := nq.size
    have hfl := fl_le z p D pre
    have k1 : Blk h5 h.size #[ptr b] 47 := (j.same h.size (by omega) (by omega) (by omega)).trans ((b13.new n4).new nq)
    have k2 : Blk h5 h1.size #[.int .i64 z, .int .i64 p, .int .i64 g] 85 := (j.same h1.size (by omega) (by omega) (by omega)).trans ((b23.new n4).new nq)
    refine ld_of (c := .ptr) (some ⟨b, 0, none⟩) (by rw [cellH_blk k1]; rfl) (ldAgg_blk (z, p, g) k2 ⟨rfl, rfl, rfl, trivial⟩ (call_of (get_ok gk g x hx h5 d5) ?_))
    rintro v h6 ⟨ba, bc, e, el, rfl, he, g6⟩
    refine ⟨((getM z p D x).1, (ba, (getM z p D x).2.1.length, bc), e), rfl, new_stL rfl fun h7 b7 n7 s7 => ⟨(he.new n7).ok.1, ?_⟩⟩
    have n57 := g6.new.trans n7
    have j7 := j.new n57
    have hcat : (pre ++ [x]).flatMap (scan1 z p D) = pre.flatMap (scan1 z p D) ++ scan1 z p D x := by rw [List.flatMap_append]; simp
    rw [(he.new n7).ok.2]
    refine br_of (fun hc => ?_) (fun hc => ?_)
    · have hc := of_decide_eq_true hc
      have e1 : scan1 z p D x = [(x, (getM z p D x).1)] := if_pos hc
      rw [e1] at hcat
      obtain ⟨la, lc, hb, ow⟩ := j7.var
      refine ld_of (c := .slice) (la, (pre.flatMap (scan1 z p D)).length, lc) (by rw [cellH_blk hb]; rfl) (ldAgg_blk (getM z p D x).1 b7 ⟨rfl, rfl, rfl, rfl, trivial⟩ ?_)
      refine page_push (x, (getM z p D x).1) ow (by omega) j7.sizes fun a' c' h8 o8 u8 => ?_
      exact j7.grown (x := x) hb ow u8 (by rw [hcat]) (by rw [hcat]; exact o8) fun h9 j9 => hend h9 ⟨j9, nq, hl⟩
    · have hc := of_decide_eq_false hc
      have e1 : scan1 z p D x = [] := if_neg hc
      rw [e1, List.append_nil] at hcat
      exact hend h7 ⟨j7.stay (by rw [hcat]) (by rw [hcat]), nq, hl⟩
  · intro hq l o h5 hE
    refine .inl (hE _ fun h6 ⟨j, nq, hl⟩ => ?_)
    obtain ⟨la, lc, hb, ow⟩ := j.var
    refine ld_of (c := .slice) (la, ((alls z p D).flatMap (scan1 z p D)).length, lc) (by rw [cellH_blk hb]; rfl) ?_
    intro h7 t7
    have hs := j.sizes
    have hq2 := nq.size
    refine ⟨⟨la, lc, rfl, OwnH.low (base := hq.size) (ow.keep fun _ _ _ hg _ => Tk_blk t7 hg) (by omega)⟩, ⟨by rw [t7.size]; omega, fun c hc => ?_⟩⟩
    rw [Tk_low t7 hc, j.same c (by omega) (by omega) (by omega), nq.same c (by omega), n04.same c hc]
end Go.Proofs.YtgohecjnjadnpaaDoor.Med
