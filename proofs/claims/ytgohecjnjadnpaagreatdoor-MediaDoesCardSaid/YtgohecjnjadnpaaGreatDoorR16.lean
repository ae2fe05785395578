/-
  The reference of media: its contracts.
-/
import Derived.Test.YtgohecjnjadnpaaGreatDoorMedL
import Derived.Test.YtgohecjnjadnpaaGreatDoorR2A
import Derived.Test.YtgohecjnjadnpaaGreatDoorR4
import Derived.Test.YtgohecjnjadnpaaGreatDoorZnsR
import Derived.Test.YtgohecjnjadnpaaGreatDoorWR16
import Derived.Test.YtgohecjnjadnpaaGreatDoorWOwn16
namespace Go.Proofs.YtgohecjnjadnpaaGreatDoor.R16
open Go.Pl Go.Proofs.YtgohecjnjadnpaaGreatDoor.W Go.Proofs.YtgohecjnjadnpaaGreatDoor.Byts Go.Proofs.YtgohecjnjadnpaaGreatDoor.As Go.Proofs.YtgohecjnjadnpaaGreatDoor.Err Go.Proofs.YtgohecjnjadnpaaGreatDoor.Head Go.Proofs.YtgohecjnjadnpaaGreatDoor.HdP Go.Proofs.YtgohecjnjadnpaaGreatDoor.Zns Go.Proofs.YtgohecjnjadnpaaGreatDoor.Geo Go.Proofs.YtgohecjnjadnpaaGreatDoor.Med Go.Proofs.YtgohecjnjadnpaaGreatDoor.MedA
abbrev RRep := DRep LoR
abbrev ptr (b : Nat) : Value := .pointer (some ⟨b, 0, none⟩)
theorem rfits_ok {k b : Nat} {t : Tags} {D : Dev} (z p g : Int) (h : Heap) (r : RRep k t h b D) :
    CallsH Tryz.prog 10 [ptr b, geoV z p g] h fun v h' => v = .bool (rightB z p g && (((D.zs.length : Int) == z) && ((D.P : Int) == p))) ∧ New h h' := by
  refine fun_ok Geo.hm' Tryz.func10 (by kernel_rfl) (F10_eq _ _ _ _ _ h) ?_
  unfold F10
  refine new_of fun h1 b1 n1 s1 => ldAgg_blk (z, p, g) b1 ⟨rfl, rfl, rfl, trivial⟩ (call_of (R2.rright_ok z p g h1) ?_)
  rintro v h2 ⟨rfl, n2⟩
  have b2 := b1.new n2
  have n02 := n1.trans n2
  obtain ⟨za, c, arr, d⟩ := r.new n02
  refine ⟨_, rfl, br_of (fun hr => ?_) (fun hr => ⟨by rw [hr]; rfl, n02⟩)⟩
  refine ld_of (c := .slice) (some ⟨za, 0, none⟩, D.zs.length, c) d.cz (ld_of (c := .int .i64) z (by rw [add_mk, cellH_blk b2]; rfl) (br_of (fun hz => ?_) (fun hz => ?_)))
  · exact ld_of (c := .int .i64) (D.P : Int) d.cP (ld_of (c := .int .i64) p (by rw [add_mk, cellH_blk b2]; rfl) ⟨by rw [hr, show ((D.zs.length : Int) == z) = true from hz]; rfl, n02⟩)
  · exact ⟨by rw [hr, show ((D.zs.length : Int) == z) = false from hz]; rfl, n02⟩
theorem since {k b : Nat} {t : Tags} {h0 h h' : Heap} {D' : Dev} (n : New h0 h) (a : ZnsR.Acted k t h b D' h') : ZnsR.Acted k t h0 b D' h' := by
  obtain ⟨t', r, f⟩ := a
  exact ⟨t', r, (Fr.new0 n).trans f⟩
theorem till {k b : Nat} {t : Tags} {h h1 h2 : Heap} {D' : Dev} (a : ZnsR.Acted k t h b D' h1) (n : New h1 h2) : ZnsR.Acted k t h b D' h2 := by
  obtain ⟨t', r, f⟩ := a
  exact ⟨t', r.new n, f.trans (Fr.new0 n)⟩
theorem stays {k b : Nat} {t : Tags} {h : Heap} {D : Dev} (r : RRep k t h b D) : ZnsR.Acted k t h b D h := ⟨t, r, Fr.refl _ _ _⟩
theorem of_zero {z p zone : Int} (hp : 4 ≤ p ∧ p ≤ 16) : ofF z p zone 0 = 0 ↔ ¬ (0 ≤ zone ∧ zone ≤ z - 3) := by
  unfold ofF
  constructor
  · intro h hz
    rw [if_pos ⟨hz, by omega, by omega⟩] at h
    have := Int.mul_nonneg hz.1 (show 0 ≤ p by omega)
    omega
  · intro h
    rw [if_neg fun hh => h hh.1]
theorem rput_ok {k b : Nat} {t : Tags} {D : Dev} {z p : Int} (hk : k ≠ 0) (gk : GOk z p D) (g zone : Int) (x : Hd) (hx : HdOk x) (ba : Option Addr) (bc : Nat) (bs : List Int) (h : Heap) (r : RRep k t h b D) (s : Sl8 h ba bc bs) :
    CallsH Tryz.prog 30 [ptr b, geoV z p g, .int .i64 zone, hdV x, .slice ba bs.length bc] h fun v h' => v = .tuple #[.int .u32 (putM z p D zone x bs).2.1, .int .i64 (putM z p D zone x bs).2.2] ∧ ZnsR.Acted k t h b (putM z p D zone x bs).1 h' := by
  refine fun_ok Geo.hm' Tryz.func30 (by kernel_rfl) (F30_eq _ _ _ _ _ _ _ _ _ _ _ _ _ h) ?_
  unfold F30
  have hzr := gk.zr
  refine new_of fun h1 b1 n1 s1 => new_of fun h2 b2 n2 s2 => ?_
  have n02 := n1.trans n2
  refine cut_q (ts := []) (fun _ h' => h' = h2 ∧ 0 ≤ zone ∧ zone ≤ z - 3) ?_ ?_
  rotate_left
  · intro K hK
    have out : ¬ (0 ≤ zone ∧ zone ≤ z - 3) → putM z p D zone x bs = (D, 0, 1) := fun hz => by unfold putM; rw [if_pos ((of_zero gk.pr).2 hz)]
    refine br_of (fun h3 => ?_) (fun h3 => ld_of (c := .int .i64) z (by rw [add_mk, cellH_blk (b1.new n2)]; rfl) ?_)
    · have h3 := of_decide_eq_true h3
      rw [out (by omega)]
      exact ⟨rfl, till (stays r) n02⟩
    · have h3 := of_decide_eq_false h3
      rw [wr64 (by omega) (by omega)]
      refine br_of (fun h4 => ?_) (fun h4 => hK _ _ ⟨rfl, ?_⟩)
      · have h4 := of_decide_eq_true h4
        rw [out (by omega)]
        exact ⟨rfl, till (stays r) n02⟩
      · have h4 := of_decide_eq_false h4
        omega
  rintro _ h' ⟨hh, hzone⟩ _; subst h'
  have hz : ¬ ofF z p zone 0 = 0 := fun e => (of_zero gk.pr).1 e hzone
  refine ldAgg_blk x b2 ⟨rfl, rfl, rfl, rfl, trivial⟩ (call_of (R4.bytes_ok x hx ba bc bs h2 (s.new n02)) ?_)
  rintro v h4 ⟨a4, c4, rfl, g4⟩
  have n04 := n02.trans g4.new
  refine ⟨((a4, (bytesF x bs).1.length, c4), (bytesF x bs).2), rfl, br_of (fun he => ?_) (fun he => ?_)⟩
  · have he : (bytesF x bs).2 ≠ 0 := by simpa using he
    have hp : putM z p D zone x bs = (D, 0, (bytesF x bs).2) := by unfold putM; rw [if_neg hz, if_pos he]
    rw [hp]
    exact ⟨rfl, till (stays r) n04⟩
  have he : (bytesF x bs).2 = 0 := by simpa using he
  have hlen : (bytesF x bs).1.length ≤ 1000 := by
    rcases bytesF_cases x bs with ⟨_, _, hl, e⟩ | ⟨h1, _⟩
    · rw [e]; have := pageL_len x hl; simp only []; omega
    · exact (h1 he).elim
  have im4 : Im .u8 (lay t h.size (0, 0)) h4 a4 (bytesF x bs).1 := ⟨g4.ar, fun hx q hq => by have := g4.at_ hx q hq; have := n02.size; rw [lay_ge (by omega)]⟩
  have r4 : RRep k (lay t h.size (0, 0)) h4 b D := r.fr (S := fun _ => True) (Fr.lay n04 _) (fun _ _ => trivial) fun _ => trivial
  refine call_of (ZnsR.append_ok gk.ok zone a4 c4 (bytesF x bs).1 h4 r4 hlen im4) ?_
  rintro v h5 ⟨rfl, t5, r5, f5⟩
  have ac5 : ZnsR.Acted k t h b (D.append zone (bytesF x bs).1).1 h5 := ⟨t5, r5, (Fr.lay n04 _).trans f5⟩
  refine ⟨((D.append zone (bytesF x bs).1).2.1, (D.append zone (bytesF x bs).1).2.2), rfl, br_of (fun hf => ?_) (fun hf => ?_)⟩
  · have hf : (D.append zone (bytesF x bs).1).2.2 ≠ 0 := by simpa using hf
    have hp : putM z p D zone x bs = ((D.append zone (bytesF x bs).1).1, 0, (D.append zone (bytesF x bs).1).2.2) := by unfold putM; rw [if_neg hz, if_neg (by simpa using he), if_pos hf]
    rw [hp]
    exact ⟨rfl, ac5⟩
  have hf : (D.append zone (bytesF x bs).1).2.2 = 0 := by simpa using hf
  have hp : putM z p D zone x bs = ((D.append zone (bytesF x bs).1).1, ofF z p zone (D.append zone (bytesF x bs).1).2.1, 0) := by unfold putM; rw [if_neg hz, if_neg (by simpa using he), if_neg (by simpa using hf)]
  have b5 : Blk h5 h.size #[.int .i64 z, .int .i64 p, .int .i64 g] 27 := f5.blk ((b1.new n2).new g4.new) (by rw [lay_ge (Nat.le_refl _)]; exact fun e => hk e.symm)
  refine ldAgg_blk (z, p, g) b5 ⟨rfl, rfl, rfl, trivial⟩ (call_of (R2.rof_ok z p g zone _ h5 gk.zr gk.pr) ?_)
  rintro v h6 ⟨rfl, n6⟩
  rw [hp]
  exact ⟨_, rfl, rfl, till ac5 n6⟩
theorem rget_ok {k b : Nat} {t : Tags} {D : Dev} {z p : Int} (gk : GOk z p D) (g a : Int) (ha : 0 ≤ a ∧ a < 4294967296) (h : Heap) (r : RRep k t h b D) :
    CallsH Tryz.prog 31 [ptr b, geoV z p g, .int .u32 a] h fun v h' => ∃ ba bc, v = .tuple #[hdV (getM z p D a).1, .slice ba (getM z p D a).2.1.length bc, .int .i64 (getM z p D a).2.2] ∧ Got .u8 5 h h' ba bc (getM z p D a).2.1 := by
  have hzr := gk.zr
  have hpr := gk.pr
  obtain ⟨zn, rfl⟩ := Int.eq_ofNat_of_zero_le (show 0 ≤ z by omega)
  obtain ⟨pn, rfl⟩ := Int.eq_ofNat_of_zero_le (show 0 ≤ p by omega)
  refine fun_ok Geo.hm' Tryz.func31 (by kernel_rfl) (F31_eq _ _ _ _ _ _ h) ?_
  unfold F31
  rw [R4.zeroR]
  refine new_of fun h1 b1 n1 s1 => new_of fun h2 b2 n2 s2 => ldAgg_blk ((zn : Int), (pn : Int), g) (b1.new n2) ⟨rfl, rfl, rfl, trivial⟩ (call_of (R2.rat_ok zn pn g a h2 (by omega) (by omega) ha) ?_)
  rintro v h3 ⟨⟨i, j, rfl, hij⟩, n3⟩
  have n03 := (n1.trans n2).trans n3
  have b3 : Blk h3 h1.size #[.int .u8 0, .int .u32 0, .int .u32 0, .int .u32 0] 48 := b2.new n3
  refine ⟨(i, j, (atF zn pn a).2.2), rfl, br_of (fun hz => ?_) (fun hz => ?_)⟩
  · have hz : (atF zn pn a).2.2 = false := by simpa using hz
    have hp : getM zn pn D a = (hd0, [], 1) := by unfold getM; rw [if_pos hz]
    refine stL_blk b3 (Nat.le_refl 4) fun h5 b5 o5 => ?_
    rw [setsA_all (by rfl)] at b5
    refine ldAgg_blk hd0 b5 ⟨rfl, rfl, rfl, rfl, trivial⟩ ?_
    rw [hp]
    exact ⟨none, 0, rfl, Got.nil _ _ (o5.upd.new n03 (by omega))⟩
  have hzt : (atF zn pn a).2.2 = true := by simpa using hz
  clear hz
  obtain ⟨e1, e2⟩ := hij hzt
  subst e1; subst e2
  refine call_of (ZnsR.read_ok gk.ok (atF zn pn a).1 (atF zn pn a).2.1 h3 (r.new n03)) ?_
  rintro v h4 ⟨a4, c4, rfl, g4⟩
  refine ⟨((a4, (D.read (atF zn pn a).1 (atF zn pn a).2.1).1.length, c4), (D.read (atF zn pn a).1 (atF zn pn a).2.1).2), rfl, br_of (fun he => ?_) (fun he => ?_)⟩
  · have he : (D.read (atF zn pn a).1 (atF zn pn a).2.1).2 ≠ 0 := by simpa using he
    have hp : getM zn pn D a = (hd0, [], (D.read (atF zn pn a).1 (atF zn pn a).2.1).2) := by unfold getM; rw [if_neg (by rw [hzt]; simp), if_pos he]
    refine stL_blk (b3.new g4.new) (Nat.le_refl 4) fun h6 b6 o6 => ?_
    rw [setsA_all (by rfl)] at b6
    refine ldAgg_blk hd0 b6 ⟨rfl, rfl, rfl, rfl, trivial⟩ ?_
    rw [hp]
    exact ⟨none, 0, rfl, Got.nil _ _ (o6.upd.new (n03.trans g4.new) (by omega))⟩
  have he : (D.read (atF zn pn a).1 (atF zn pn a).2.1).2 = 0 := by simpa using he
  have hp : getM zn pn D a = readF (D.read (atF zn pn a).1 (atF zn pn a).2.1).1 := by unfold getM; rw [if_neg (by rw [hzt]; simp), if_neg (by simpa using he)]
  have hbyt : Byt (D.read (atF zn pn a).1 (atF zn pn a).2.1).1 := read_byt gk.ok _ _
  rw [hp]
  generalize (D.read (atF zn pn a).1 (atF zn pn a).2.1).1 = pg at g4 hbyt ⊢
  refine call_of (R4.read_ok a4 c4 pg h4 (Sl8.got g4 hbyt)) ?_
  rintro v h5 ⟨a5, c5, rfl, g5⟩
  have n45 := g4.new.trans g5.new
  have b35 := b3.new n45
  refine ⟨((readF pg).1, (a5, (readF pg).2.1.length, c5), (readF pg).2.2), rfl, stL_blk b35 (Nat.le_refl 4) fun h8 b8 o8 => ?_⟩
  rw [setsA_all (by rfl)] at b8
  refine ldAgg_blk (readF pg).1 b8 ⟨rfl, rfl, rfl, rfl, trivial⟩ ?_
  have hlt := b3.lt
  have hs4 := g4.new.size
  exact ⟨a5, c5, rfl, ⟨got_only g5 b35 (by decide) (by omega) o8, o8.upd.new (n03.trans n45) (by omega), fun hx q hq => by have := g5.at_ hx q hq; have := n03.size; omega⟩⟩
/- SCAN. -/
def upTo (n : Nat) : List Int := (List.range n).map fun (j : Nat) => (j : Int) + 1
theorem upTo_succ (n : Nat) : upTo (n + 1) = upTo n ++ [(n : Int) + 1] := by unfold upTo; rw [List.range_succ, List.map_append]; rfl
theorem rscan_eq {z p : Int} {D : Dev} (gk : GOk z p D) : (upTo ((z - 2) * p).toNat).flatMap (scan1 z p D) = scanM z p D := by
  have h1 : ∀ a x, x ∈ scan1 z p D a → x.1 = a := fun a x hx => by
    unfold scan1 at hx
    split at hx
    · rw [List.mem_singleton.1 hx]
    · cases hx
  have hT : 0 ≤ (z - 2) * p := Int.mul_nonneg (by have := gk.zr; omega) (by have := gk.pr; omega)
  refine pg_ext ?_ (scan_up gk) fun y => ?_
  · rw [List.pairwise_flatMap]
    refine ⟨fun a _ => ?_, ?_⟩
    · unfold scan1
      split
      · exact List.pairwise_singleton _ _
      · exact List.Pairwise.nil
    · unfold upTo
      rw [List.pairwise_map]
      exact List.Pairwise.imp (fun {a b} hab x hx y hy => by rw [h1 _ x hx, h1 _ y hy]; omega) List.pairwise_lt_range
  · rw [mem_scan gk, List.mem_flatMap]
    constructor
    · rintro ⟨a, ha, hy⟩
      unfold upTo at ha
      obtain ⟨j, hj, rfl⟩ := List.mem_map.1 ha
      unfold scan1 at hy
      split at hy
      · rename_i hc
        rw [List.mem_singleton.1 hy]
        exact ⟨by simp only []; omega, hc, rfl⟩
      · cases hy
    · rintro ⟨h0, hc, he⟩
      refine ⟨y.1, ?_, by unfold scan1; rw [if_pos hc, List.mem_singleton, ← he]⟩
      have hat : (atF z p y.1).2.2 = true := by
        cases hh : (atF z p y.1).2.2 with
        | true => rfl
        | false => unfold getM at hc; rw [if_pos hh] at hc; cases hc
      have hb : ¬ (y.1 = 0 ∨ (z - 2) * p < y.1) := fun hh => by unfold atF at hat; rw [if_pos hh] at hat; cases hat
      unfold upTo
      rw [List.mem_map]
      exact ⟨(y.1 - 1).toNat, by rw [List.mem_range]; omega, by omega⟩
theorem zeroRH : zeroC Tryz.prog 48 = hdA (0, 0, 0, 0) := R4.zeroR
theorem rscan_ok {k b : Nat} {t : Tags} {D : Dev} {z p : Int} (gk : GOk z p D) (g : Int) (h : Heap) (r : RRep k t h b D) :
    CallsH Tryz.prog 17 [ptr b, geoV z p g] h fun v h' => ∃ a c, v = .slice a (scanM z p D).length c ∧ RowS h' TR 5 a (scanM z p D).length c (pgs (scanM z p D)) ∧ New h h' := by
  refine fun_ok Geo.hm' Tryz.func17 (by kernel_rfl) (F17_eq _ _ _ _ _ h) ?_
  unfold F17
  have hzr := gk.zr
  have hpr := gk.pr
  rw [zeroRH]
  refine new_of fun h1 b1 n1 s1 => new_of fun h2 b2 n2 s2 => ?_
  have n02 := n1.trans n2
  have hT0 : 0 ≤ (z - 2) * p := Int.mul_nonneg (by omega) (by omega)
  have hT1 : (z - 2) * p ≤ 22 * 16 := Int.mul_le_mul (by omega) (by omega) (by omega) (by omega)
  rw [← rscan_eq gk]
  generalize hT : ((z - 2) * p).toNat = T
  have hr0 : ∀ q : Nat, some h1.size = some q → h.size ≤ q := fun q e => by injection e with e; omega
  refine ⟨fun (s : Sc × Int) h' => ∃ i : Nat, s.2 = ((i + 1 : Nat) : Int) ∧ i ≤ T ∧ s.1.2.1 = ((upTo i).flatMap (scan1 z p D)).length ∧ Grow h2 (some h1.size) h' TR 5 s.1.1 ((upTo i).flatMap (scan1 z p D)).length s.1.2.2 (pgs ((upTo i).flatMap (scan1 z p D))), fun (s : Sc × Int) _ => ((T : Int) + 1 - s.2).toNat, ⟨0, rfl, Nat.zero_le _, rfl, Grow.start (RowS.nil' h2 TR 5 (some ⟨h1.size, 0, none⟩))⟩, ?_⟩
  rintro ⟨⟨oa, on, oc⟩, s⟩ j h3 ⟨i, hs, hi, hon, g3⟩
  have hs : s = ((i + 1 : Nat) : Int) := hs
  have hon : on = ((upTo i).flatMap (scan1 z p D)).length := hon
  have g3' : Grow h2 (some h1.size) h3 TR 5 oa ((upTo i).flatMap (scan1 z p D)).length oc (pgs ((upTo i).flatMap (scan1 z p D))) := g3
  subst hs; subst hon
  have n03 : New h h3 := g3'.upd.grow n02 hr0
  have b13 : Blk h3 h.size #[.int .i64 z, .int .i64 p, .int .i64 g] 27 := (g3'.upd.same h.size (b1.new n2).lt (fun e => by injection e with e; omega)).trans (b1.new n2)
  have hfl := fl_le z p D (upTo i)
  have hul : (upTo i).length = i := by simp [upTo]
  have e1 : IntKind.wrap .u32 (IntKind.wrap .i64 ((IntKind.wrap .i64 (z - (2 : Int))) * p)) = (T : Int) := by
    rw [wr64 (n := z - 2) (by omega) (by omega), wr64 (by omega) (by omega), wru32]; omega
  refine ld_of (c := .int .i64) z (by rw [add_mk, cellH_blk b13]; rfl) (ld_of (c := .int .i64) p (by rw [add_mk, cellH_blk b13]; rfl) ?_)
  rw [e1]
  refine br_of (fun hlt => ?_) (fun hlt => ?_)
  · have hlt : ((i + 1 : Nat) : Int) ≤ (T : Int) := of_decide_eq_true hlt
    have ez : IntKind.wrap .u32 (((i + 1 : Nat) : Int) + 1) = ((i + 1 + 1 : Nat) : Int) := by rw [wru32]; omega
    refine ldAgg_blk (z, p, g) b13 ⟨rfl, rfl, rfl, trivial⟩ (call_of (rget_ok gk g ((i + 1 : Nat) : Int) (by omega) h3 (r.new n03)) ?_)
    rintro v h4 ⟨ba, bc, rfl, g4⟩
    refine ⟨((getM z p D ((i + 1 : Nat) : Int)).1, (ba, (getM z p D ((i + 1 : Nat) : Int)).2.1.length, bc), (getM z p D ((i + 1 : Nat) : Int)).2.2), rfl, new_stL rfl fun h5 b5 n5 s5 => ?_⟩
    have n35 := g4.new.trans n5
    have hcat : (upTo (i + 1)).flatMap (scan1 z p D) = (upTo i).flatMap (scan1 z p D) ++ scan1 z p D ((i + 1 : Nat) : Int) := by
      rw [upTo_succ, List.flatMap_append]
      have : ((i + 1 : Nat) : Int) = (i : Int) + 1 := by omega
      rw [this]; simp
    refine br_of (fun hc => ?_) (fun hc => ?_)
    · have hc : (getM z p D ((i + 1 : Nat) : Int)).2.2 = 0 := by simpa using hc
      have e2 : scan1 z p D ((i + 1 : Nat) : Int) = [(((i + 1 : Nat) : Int), (getM z p D ((i + 1 : Nat) : Int)).1)] := if_pos hc
      rw [e2] at hcat
      refine ldAgg_blk (getM z p D ((i + 1 : Nat) : Int)).1 b5 ⟨rfl, rfl, rfl, rfl, trivial⟩ ?_
      refine grow_pg (((i + 1 : Nat) : Int), (getM z p D ((i + 1 : Nat) : Int)).1) (g3'.new n35) (by omega) fun a' c' h6 g6 => ?_
      rw [← hcat] at g6 ⊢
      simp only [ez]
      exact ⟨⟨i + 1, rfl, by omega, rfl, g6⟩, (by first | omega | (dsimp only; omega) | (simp only []; omega))⟩
    · have hc : ¬ (getM z p D ((i + 1 : Nat) : Int)).2.2 = 0 := by simpa using hc
      have e2 : scan1 z p D ((i + 1 : Nat) : Int) = [] := if_neg hc
      rw [e2, List.append_nil] at hcat
      simp only [ez]
      exact ⟨⟨i + 1, rfl, by omega, by rw [hcat], by rw [hcat]; exact g3'.new n35⟩, (by first | omega | (dsimp only; omega) | (simp only []; omega))⟩
  · have hlt : ¬ ((i + 1 : Nat) : Int) ≤ (T : Int) := of_decide_eq_false hlt
    have : i = T := by omega
    subst this
    exact ⟨oa, oc, rfl, g3'.row, n03⟩
theorem own_ok {k b : Nat} {h0 : Heap} {t : Tags} {D : Dev} {z p : Int} (gk : GOk z p D) (g : Int) (x : MedA.Act) (ba ka ta : Option Addr) (bc kc tc : Nat) (h : Heap) (bs : Bs h0 t h) (i : ActIn h0 x ba bc ka ta) (r : RRep k t h b D) (hk : k ≠ 0) :
    CallsH Tryz.prog 12 [ptr b, geoV z p g, actV x ba ka ta bc kc tc] h (Did LoR k t h b (act z p D x)) := by
  refine fun_ok Geo.hm' Tryz.func12 (by kernel_rfl) (F12_eq _ _ _ _ _ _ _ _ _ _ _ _ _ _ _ _ _ _ _ _ _ h) ?_
  unfold F12
  rw [zeroT]
  refine new_of fun h1 b1 n1 s1 => new_of fun h2 b2 n2 s2 => new_of fun h3 b3 n3 s3 => new_of fun h4 b4 n4 s4 => ?_
  have b2 : Blk h2 h1.size (actA x ba ka ta bc kc tc) 47 := b2
  have n04 := ((n1.trans n2).trans n3).trans n4
  have bg := ((b1.new n2).new n3).new n4
  have ba4 := (b2.new n3).new n4
  have bp4 : Blk h4 h2.size (toldA 0 hd0 none 0 0 0) TTold := b3.new n4
  have bq4 : Blk h4 h3.size (toldA 0 hd0 none 0 0 0) TTold := b4
  have f4 : Fr (fun p => p.1 ≠ k) t h (lay t h.size (k + 1, 0)) h4 := Fr.lay n04 _
  have bs4 := bs.own hk f4
  have r4 : RRep k (lay t h.size (k + 1, 0)) h4 b D := r.fr (S := fun _ => True) (Fr.lay n04 _) (fun _ _ => trivial) fun _ => trivial
  have tg : ∀ g, h.size ≤ g → lay t h.size (k + 1, 0) g = (k + 1, 0) := fun g hg => lay_ge hg
  generalize lay t h.size (k + 1, 0) = t4 at f4 bs4 r4 tg
  have c0 : cellH h4 (Addr.add ⟨h1.size, 0, none⟩ 0) = some (.int .i64 x.op) := by rw [add_mk, cellH_blk ba4]; rfl
  have c1 : cellH h4 (Addr.add ⟨h1.size, 0, none⟩ 1) = some (.int .i64 x.zone) := by rw [add_mk, cellH_blk ba4]; rfl
  have c7 : cellH h4 (Addr.add ⟨h1.size, 0, none⟩ 7) = some (.slice ba x.b.length bc) := by rw [add_mk, cellH_blk ba4]; rfl
  have c8 : cellH h4 (Addr.add ⟨h1.size, 0, none⟩ 8) = some (.slice ka x.keep.length kc) := by rw [add_mk, cellH_blk ba4]; rfl
  have c9 : cellH h4 (Addr.add ⟨h1.size, 0, none⟩ 9) = some (.slice ta x.tear.length tc) := by rw [add_mk, cellH_blk ba4]; rfl
  have hS1 : ((k + 1, 0) : Nat × Nat).1 ≠ k := by simp
  have m4 : Mid LoR k t h h2.size h3.size b D [] none (toldA 0 hd0 none 0 0 0) t4 h4 := ⟨bq4, bp4, r4, f4, Im.nil .., tg _ (by omega), tg _ (by omega)⟩
  have mid : ∀ (h5 : Heap) (t5 : Tags) (E : Dev), RRep k t5 h5 b E → Fr (fun p => p.1 ≠ k) t4 h4 t5 h5 → Mid LoR k t h h2.size h3.size b E [] none (toldA 0 hd0 none 0 0 0) t5 h5 := fun h5 t5 E r5 f5 =>
    ⟨f5.blk bq4 (by rw [tg _ (by omega)]; exact hS1), f5.blk bp4 (by rw [tg _ (by omega)]; exact hS1), r5, f4.trans f5, Im.nil .., by rw [f5.tags _ bp4.lt]; exact tg _ (by omega), by rw [f5.tags _ bq4.lt]; exact tg _ (by omega)⟩
  refine cut_q (ts := []) (fun _ h5 => ∃ a c t5, Mid LoR k t h h2.size h3.size b (act z p D x).1 (act z p D x).2.b a (toldA (act z p D x).2.a (act z p D x).2.hd a (act z p D x).2.b.length c (act z p D x).2.e) t5 h5) ?_ ?_
  · rintro _ h5 ⟨a, c, t5, m5⟩ _
    exact told_end m5 (by omega)
  · intro K hK
    refine ld_of (c := .int .i64) x.op c0 (br_of (fun e0 => ?_) fun e0 => br_of (fun e1 => ?_) fun e1 => br_of (fun e2 => ?_) fun e2 => br_of (fun e3 => ?_) fun e3 => br_of (fun e4 => ?_) fun e4 => br_of (fun e5 => ?_) fun e5 => ?_)
    · have e0 : x.op = 0 := by simpa using e0
      have ea : act z p D x = ((putM z p D x.zone x.hd x.b).1, ⟨(putM z p D x.zone x.hd x.b).2.1, hd0, [], (putM z p D x.zone x.hd x.b).2.2⟩) := by unfold act; rw [if_pos e0]
      refine ldAgg_blk (z, p, g) bg ⟨rfl, rfl, rfl, trivial⟩ (ld_of (c := .int .i64) x.zone c1 (ldAgg_add (o := 0) x.hd ba4 ⟨rfl, rfl, rfl, rfl, trivial⟩ (ld_of (c := .slice) (ba, x.b.length, bc) c7 (call_of (rput_ok hk gk g x.zone x.hd i.hd ba bc x.b h4 r4 (i.b.new (bs.new.trans n04))) ?_))))
      rintro v h5 ⟨rfl, t5, r5, f5⟩
      have m5 := mid h5 t5 _ r5 f5
      refine ⟨((putM z p D x.zone x.hd x.b).2.1, (putM z p D x.zone x.hd x.b).2.2), rfl, ?_⟩
      rw [add_mk]
      refine st_blk m5.bq (show 0 + 0 < 7 by omega) fun h6 b6 o6 => ?_
      have m6 := m5.setq o6 (by omega) (by omega) b6
      rw [add_mk]
      refine st_blk m6.bq (show 0 + 6 < 7 by omega) fun h7 b7 o7 => hK _ _ ?_
      rw [ea]
      exact ⟨none, 0, t5, m6.setq o7 (by omega) (by omega) b7⟩
    · have e0 : ¬ x.op = 0 := by simpa using e0
      have e1 : x.op = 1 := by simpa using e1
      have ea : act z p D x = (D, ⟨0, (getM z p D x.addr).1, (getM z p D x.addr).2.1, (getM z p D x.addr).2.2⟩) := by unfold act; rw [if_neg e0, if_pos e1]
      refine ldAgg_blk (z, p, g) bg ⟨rfl, rfl, rfl, trivial⟩ (ld_of (c := .int .u32) x.addr (by rw [add_mk, cellH_blk ba4]; rfl) (call_of (rget_ok gk g x.addr i.addr h4 r4) ?_))
      rintro v h6 ⟨a6, c6, rfl, g6⟩
      rw [ea] at hK
      generalize getM z p D x.addr = G at g6 hK ea ⊢
      have f6 : Fr (fun p => p.1 ≠ k) t4 h4 (lay t4 h4.size (0, 0)) h6 := Fr.lay g6.new _
      have r6 : RRep k (lay t4 h4.size (0, 0)) h6 b D := r4.fr (S := fun _ => True) (Fr.lay g6.new _) (fun _ _ => trivial) fun _ => trivial
      have m6' := mid h6 _ D r6 f6
      have m6 : Mid LoR k t h h2.size h3.size b D G.2.1 a6 (toldA 0 hd0 none 0 0 0) (lay t4 h4.size (0, 0)) h6 := ⟨m6'.bq, m6'.bp, m6'.dev, m6'.fr, Im.got g6 (t := t4) (0, 0) rfl, m6'.tp, m6'.tq⟩
      refine ⟨(G.1, (a6, G.2.1.length, c6), G.2.2), rfl, stL_add m6.bq (show 5 ≤ 7 by decide) fun h7 b7 o7 => ?_⟩
      have m7 := m6.setq o7 (by omega) (by omega) b7
      rw [add_mk]
      refine st_blk m7.bq (show 0 + 5 < 7 by omega) fun h8 b8 o8 => ?_
      have m8 := m7.setq o8 (by omega) (by omega) b8
      rw [add_mk]
      refine st_blk m8.bq (show 0 + 6 < 7 by omega) fun h9 b9 o9 => hK _ _ ?_
      exact ⟨a6, c6, _, m8.setq o9 (by omega) (by omega) b9⟩
    · have e0 : ¬ x.op = 0 := by simpa using e0
      have e1 : ¬ x.op = 1 := by simpa using e1
      have e2 : x.op = 2 := by simpa using e2
      have ea : act z p D x = ((D.reset x.zone).1, ⟨0, hd0, [], (D.reset x.zone).2⟩) := by unfold act; rw [if_neg e0, if_neg e1, if_pos e2]
      refine ld_of (c := .int .i64) x.zone c1 (call_of (ZnsR.reset_ok gk.ok x.zone h4 r4) ?_)
      rintro v h5 ⟨rfl, t5, r5, f5⟩
      have m5 := mid h5 t5 _ r5 f5
      refine ⟨(D.reset x.zone).2, rfl, ?_⟩
      rw [add_mk]
      refine st_blk m5.bq (show 0 + 6 < 7 by omega) fun h7 b7 o7 => hK _ _ ?_
      rw [ea]; exact ⟨none, 0, t5, m5.setq o7 (by omega) (by omega) b7⟩
    · have e0 : ¬ x.op = 0 := by simpa using e0
      have e1 : ¬ x.op = 1 := by simpa using e1
      have e2 : ¬ x.op = 2 := by simpa using e2
      have e3 : x.op = 3 := by simpa using e3
      have ea : act z p D x = (D.flush.1, ⟨0, hd0, [], D.flush.2⟩) := by unfold act; rw [if_neg e0, if_neg e1, if_neg e2, if_pos e3]
      refine call_of (ZnsR.flush_ok gk.ok h4 r4) ?_
      rintro v h5 ⟨rfl, t5, r5, f5⟩
      have m5 := mid h5 t5 _ r5 f5
      refine ⟨D.flush.2, rfl, ?_⟩
      rw [add_mk]
      refine st_blk m5.bq (show 0 + 6 < 7 by omega) fun h7 b7 o7 => hK _ _ ?_
      rw [ea]; exact ⟨none, 0, t5, m5.setq o7 (by omega) (by omega) b7⟩
    · have e0 : ¬ x.op = 0 := by simpa using e0
      have e1 : ¬ x.op = 1 := by simpa using e1
      have e2 : ¬ x.op = 2 := by simpa using e2
      have e3 : ¬ x.op = 3 := by simpa using e3
      have e4 : x.op = 4 := by simpa using e4
      have ea : act z p D x = (D.setFuse x.zone, no) := by unfold act; rw [if_neg e0, if_neg e1, if_neg e2, if_neg e3, if_pos e4]
      refine ld_of (c := .int .i64) x.zone c1 (call_of (ZnsR.fuse_ok x.zone h4 r4) ?_)
      rintro v h5 ⟨rfl, r5, u5⟩
      obtain ⟨t5, r5, f5⟩ : ZnsR.Acted k t4 h4 b _ h5 := ⟨t4, r5, by obtain ⟨za, c, arr, r4⟩ := r4; exact Fr.upd u5 fun hn => hn (by rw [r4.tagB])⟩
      refine ⟨(), rfl, hK _ _ ?_⟩
      rw [ea]; exact ⟨none, 0, t5, mid h5 t5 _ r5 f5⟩
    · have e0 : ¬ x.op = 0 := by simpa using e0
      have e1 : ¬ x.op = 1 := by simpa using e1
      have e2 : ¬ x.op = 2 := by simpa using e2
      have e3 : ¬ x.op = 3 := by simpa using e3
      have e4 : ¬ x.op = 4 := by simpa using e4
      have e5 : x.op = 5 := by simpa using e5
      have ea : act z p D x = (D.crash x.keep x.tear, no) := by unfold act; rw [if_neg e0, if_neg e1, if_neg e2, if_neg e3, if_neg e4, if_pos e5]
      refine ld_of (c := .slice) (ka, x.keep.length, kc) c8 (ld_of (c := .slice) (ta, x.tear.length, tc) c9 (call_of (ZnsR.crash_ok gk.ok ka kc x.keep ta tc x.tear h4 r4 (bs4.ins i)) ?_))
      rintro v h5 ⟨rfl, t5, r5, f5⟩
      refine ⟨(), rfl, hK _ _ ?_⟩
      rw [ea]; exact ⟨none, 0, t5, mid h5 t5 _ r5 f5⟩
    · have e0 : ¬ x.op = 0 := by simpa using e0
      have e1 : ¬ x.op = 1 := by simpa using e1
      have e2 : ¬ x.op = 2 := by simpa using e2
      have e3 : ¬ x.op = 3 := by simpa using e3
      have e4 : ¬ x.op = 4 := by simpa using e4
      have e5 : ¬ x.op = 5 := by simpa using e5
      have ea : act z p D x = (D, no) := by unfold act; rw [if_neg e0, if_neg e1, if_neg e2, if_neg e3, if_neg e4, if_neg e5]
      refine hK () _ ?_
      rw [ea]; exact ⟨none, 0, t4, m4⟩
end Go.Proofs.YtgohecjnjadnpaaGreatDoor.R16
