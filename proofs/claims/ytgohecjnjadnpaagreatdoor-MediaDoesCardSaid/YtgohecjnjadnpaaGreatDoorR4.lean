/-
  The contracts of the references of sum and head.
-/
import Derived.Test.YtgohecjnjadnpaaGreatDoorWR34
import Derived.Test.YtgohecjnjadnpaaGreatDoorHead
namespace Go.Proofs.YtgohecjnjadnpaaGreatDoor.R4
open Go.Pl Go.Proofs.YtgohecjnjadnpaaGreatDoor.W Go.Proofs.YtgohecjnjadnpaaGreatDoor.Four Go.Proofs.YtgohecjnjadnpaaGreatDoor.Byts Go.Proofs.YtgohecjnjadnpaaGreatDoor.Adl Go.Proofs.YtgohecjnjadnpaaGreatDoor.As Go.Proofs.YtgohecjnjadnpaaGreatDoor.Head
theorem of_ok (a : Option Addr) (c : Nat) (xs : List Int) (n : Nat) (hx : n = xs.length) (h : Heap) (hl : xs.length ≤ 100000) (hb : Byt xs) (r : Ar .u8 h a xs) :
    CallsH Tryz.prog 79 [.slice a n c] h fun v h' => v = .int .u32 (sumL xs) ∧ h' = h := by
  subst hx
  refine fun_ok hm' Tryz.func79 (by kernel_rfl) (F79_eq _ _ _ _ h) ?_
  unfold F79
  refine ⟨fun (q : Int × Int × Int) h' => h' = h ∧ ∃ i : Nat, q.2.2 = i ∧ i ≤ xs.length ∧ (q.1, q.2.1) = adl (1, 0) (xs.take i), fun (q : Int × Int × Int) _ => ((xs.length : Int) - q.2.2).toNat, ⟨rfl, 0, rfl, by omega, rfl⟩, ?_⟩
  rintro (⟨lo, hi, q⟩ : Int × Int × Int) j h' ⟨hh, i, hq, hi', ha⟩
  simp only [] at hq ha ⊢
  subst h'; subst hq
  have hin := adl_in (xs.take i) _ in10
  rw [← ha] at hin
  obtain ⟨⟨i1, i2⟩, i3, i4⟩ := hin
  simp only [] at i1 i2 i3 i4
  refine br_of (fun hlt => ?_) (fun hlt => ?_)
  · have hlt : i < xs.length := by simp at hlt; omega
    have hx := hb xs[i] (List.getElem_mem hlt)
    refine ix_ld r hlt hlt ?_
    rw [wr64 (n := xs[i]) (by omega) (by omega), wr64 (n := (lo : Int) + xs[i]) (by omega) (by omega), Int.tmod_eq_emod_of_nonneg (by omega), wr64 (n := (hi : Int) + _) (by omega) (by omega), Int.tmod_eq_emod_of_nonneg (by omega), wr64 (by omega) (by omega)]
    refine ⟨⟨rfl, i + 1, rfl, hlt, ?_⟩, (by first | omega | (dsimp only; omega) | (simp only []; omega))⟩
    rw [List.take_add_one, List.getElem?_eq_getElem hlt, adl_app, ← ha]; rfl
  · have he : i = xs.length := by simp at hlt; omega
    subst he
    rw [List.take_length] at ha
    refine ⟨?_, rfl⟩
    rw [wr64 (n := (hi : Int) * 65536) (by omega) (by omega), wr64 (by omega) (by omega), wru32, Int.emod_eq_of_lt (by omega) (by omega)]
    unfold sumL; rw [← ha]; rfl
theorem of_q (a : Option Addr) (c : Nat) (xs : List Int) (n : Nat) (hx : n = xs.length) (h : Heap) (hl : xs.length ≤ 100000) (hb : Byt xs) (r : Ar .u8 h a xs) {F : Int → Prop} (hF : F (sumL xs)) : callQ Tryz.prog 79 [.slice a n c] [.sc (.int .u32)] F h :=
  ⟨sumL xs, fun h' e => of_ok a c xs n hx h' hl hb (r.new e.new), hF⟩
theorem right_ok (x : Hd) (h : Heap) : CallsH Tryz.prog 77 [hdV x] h fun v h' => v = .bool (isR x) ∧ New h h' := by
  refine fun_ok hm' Tryz.func77 (by kernel_rfl) (F77_eq _ _ _ _ _ h) ?_
  unfold F77
  refine new_of fun h1 b1 n1 s1 => ld_of (c := .int .u8) x.1 (by rw [add_mk, cellH_blk b1]; rfl) (br_of (fun h0 => ld_of (c := .int .u8) x.1 (by rw [add_mk, cellH_blk b1]; rfl) ⟨?_, n1⟩) fun h0 => ⟨?_, n1⟩)
  · have h0 := of_decide_eq_true h0
    unfold isR; congr 1; simp; omega
  · have h0 := of_decide_eq_false h0
    unfold isR; congr 1; symm; simp; omega
theorem four_ok (n : Int) (hn : 0 ≤ n ∧ n < 4294967296) (h : Heap) : CallsH Tryz.prog 78 [.int .u32 n] h fun v h' => ∃ a, v = .slice a 4 4 ∧ Got .u8 5 h h' a 4 (four n) := by
  refine fun_ok hm' Tryz.func78 (by kernel_rfl) (F78_eq _ _ h) ?_
  unfold F78
  have tm : Int.tmod n 256 = n % 256 := Int.tmod_eq_emod_of_nonneg hn.1
  have td : ∀ k, Int.tdiv n k = n / k := fun k => Int.tdiv_eq_ediv_of_nonneg hn.1
  have e0 : IntKind.wrap .u8 (Int.tmod n 256) = n % 256 := by rw [wru8, tm]; omega
  have e1 : IntKind.wrap .u8 (Int.tmod (IntKind.wrap .u32 (Int.tdiv n 256)) 256) = n / 256 % 256 := by rw [wru8, wru32, td, Int.tmod_eq_emod_of_nonneg (by omega)]; omega
  have e2 : IntKind.wrap .u8 (Int.tmod (IntKind.wrap .u32 (Int.tdiv n 65536)) 256) = n / 65536 % 256 := by rw [wru8, wru32, td, Int.tmod_eq_emod_of_nonneg (by omega)]; omega
  have e3 : IntKind.wrap .u8 (IntKind.wrap .u32 (Int.tdiv n 16777216)) = n / 16777216 % 256 := by rw [wru8, wru32, td]; omega
  rw [e0, e1, e2, e3]
  refine new_of fun h1 b1 n1 s1 => ⟨_, rfl, RowS.blk (xs := (four n).map (Value.int .u8)) b1 rfl (by simp [maxLen, four_len]), n1, fun _ b e => by injection e with e; change h.size = b at e; omega⟩
theorem back_ok (a : Option Addr) (c : Nat) (xs : List Int) (n : Nat) (hx : n = xs.length) (h : Heap) (s : Sl8 h a c xs) (hl : 4 ≤ xs.length) :
    CallsH Tryz.prog 81 [.slice a n c] h fun v h' => v = .int .u32 (wordAt xs 0) ∧ h' = h := by
  subst hx
  refine fun_ok hm' Tryz.func81 (by kernel_rfl) (F81_eq _ _ _ _ h) ?_
  unfold F81
  have q0 := s.byt.get 0; have q1 := s.byt.get 1; have q2 := s.byt.get 2; have q3 := s.byt.get 3
  refine s.at_ 0 rfl (by omega) (by omega) (s.at_ 1 rfl (by omega) (by omega) (s.at_ 2 rfl (by omega) (by omega) (s.at_ 3 rfl (by omega) (by omega) ⟨?_, rfl⟩)))
  simp only [wru32, wordAt, back4, Nat.zero_add]
  congr 1; omega
theorem back_q (a : Option Addr) (c : Nat) (xs : List Int) (n : Nat) (hx : n = xs.length) (h : Heap) (s : Sl8 h a c xs) (hl : 4 ≤ xs.length) {F : Int → Prop} (hF : F (wordAt xs 0)) : callQ Tryz.prog 81 [.slice a n c] [.sc (.int .u32)] F h :=
  ⟨wordAt xs 0, fun h' e => back_ok a c xs n hx h' (s.new e.new) hl, hF⟩
theorem zeroR : zeroC Tryz.prog 48 = hdA (0, 0, 0, 0) := by kernel_rfl
theorem bytes_ok (x : Hd) (hx : HdOk x) (a : Option Addr) (c : Nat) (bs : List Int) (h : Heap) (s : Sl8 h a c bs) :
    CallsH Tryz.prog 51 [hdV x, .slice a bs.length c] h fun v h' => ∃ a' c', v = .tuple #[.slice a' (bytesF x bs).1.length c', .int .i64 (bytesF x bs).2] ∧ Got .u8 5 h h' a' c' (bytesF x bs).1 := by
  refine fun_ok hm' Tryz.func51 (by kernel_rfl) (F51_eq _ _ _ _ _ _ _ _ h) ?_
  unfold F51
  refine new_of fun h1 b1 n1 s1 => ldAgg_blk x b1 ⟨rfl, rfl, rfl, rfl, trivial⟩ (call_of (right_ok x h1) ?_)
  rintro v h2 ⟨rfl, n2⟩
  have n02 := n1.trans n2
  refine ⟨isR x, rfl, ?_⟩
  cases hr : isR x with
  | false => exact br_t rfl ⟨none, 0, by simp [bytesF, hr], by simpa [bytesF, hr] using Got.nil _ _ n02⟩
  | true =>
  refine br_f rfl (br_of (fun h0 => ?_) fun h0 => ?_)
  · have h0 : bs.length ≠ 16 := by simp at h0; omega
    exact ⟨none, 0, by simp [bytesF, hr, h0], by simpa [bytesF, hr, h0] using Got.nil _ _ n02⟩
  have h16 : bs.length = 16 := by simp at h0; omega
  have ef : bytesF x bs = (pageL x bs, 0) := by simp [bytesF, hr, h16]
  rw [ef]
  have b1' := b1.new n2
  refine ld_of (c := .int .u8) x.1 (by rw [add_mk, cellH_blk b1']; rfl) (new_of fun h3 b3 n3 s3 => ?_)
  have n13 := n2.trans n3
  have k3 : Got .u8 5 h1 h3 (some ⟨h2.size, 0, none⟩) 1 [x.1] := ⟨RowS.blk (n := 1) b3 rfl (by simp [maxLen]), n13, fun _ b e => by injection e with e; change h2.size = b at e; have := n2.size; omega⟩
  have more : ∀ (h' : Heap) (a' : Option Addr) (c' : Nat) (xs ys : List Int) (b : Option Addr) (d m : Nat), Got .u8 5 h1 h' a' c' xs → xs ≠ [] → Ar .u8 h' b ys → m = ys.length → xs.length + m ≤ 1000 → ∀ F : Option Addr → Nat → Nat → Heap → Prop,
      (∀ a2 c2 h2, Got .u8 5 h1 h2 a2 c2 (xs ++ ys) → F a2 (xs ++ ys).length c2 h2) → apW Tryz.prog #[43, 43] #[.slice a' xs.length c', .slice b m d] F h' := by
    intro h' a' c' xs ys b d m k hx r hm hn F hF
    exact Grow.ints ap8 (Grow.start k.row) r hm (by omega) (by omega) fun a2 c2 h2 g => hF a2 c2 h2 (g.got k.new (fun b e => k.at_ hx b e))
  refine ld_of (c := .int .u32) x.2.1 (by rw [add_mk, cellH_blk (b1.new k3.new)]; rfl) (call_of (four_ok _ hx.s h3) ?_)
  rintro v h4 ⟨a4, rfl, g4⟩
  refine ⟨(a4, 4, 4), rfl, more h4 _ 1 [x.1] (four x.2.1) a4 4 4 (k3.after g4.new) (by simp) g4.ar rfl (by simp) _ fun a5 c5 h5 k5 => ?_⟩
  have hl5 : ([x.1] ++ four x.2.1).length = 5 := rfl
  refine ld_of (c := .int .u32) x.2.2.1 (by rw [add_mk, cellH_blk (b1.new k5.new)]; rfl) (call_of (four_ok _ hx.i h5) ?_)
  rintro v h6 ⟨a6, rfl, g6⟩
  refine ⟨(a6, 4, 4), rfl, more h6 a5 c5 _ (four x.2.2.1) a6 4 4 (k5.after g6.new) (by simp) g6.ar rfl (by rw [hl5]; omega) _ fun a7 c7 h7 k7 => ?_⟩
  have hl7 : ([x.1] ++ four x.2.1 ++ four x.2.2.1).length = 9 := rfl
  refine ld_of (c := .int .u32) x.2.2.2 (by rw [add_mk, cellH_blk (b1.new k7.new)]; rfl) (call_of (four_ok _ hx.q h7) ?_)
  rintro v h8 ⟨a8, rfl, g8⟩
  refine ⟨(a8, 4, 4), rfl, more h8 a7 c7 _ (four x.2.2.2) a8 4 4 (k7.after g8.new) (by simp) g8.ar rfl (by rw [hl7]; omega) _ fun a9 c9 h9 k9 => ?_⟩
  have eh : [x.1] ++ four x.2.1 ++ four x.2.2.1 ++ four x.2.2.2 = headL x := by simp [headL, fours]
  rw [eh] at k9 ⊢
  refine new_of fun hA bA nA sA => ?_
  have gA : Grow hA (some h9.size) hA 5 1 (some ⟨h9.size, 0, none⟩) 0 0 (([] : List Int).map (Value.int .u8)) := Grow.start (RowS.blk bA rfl (Nat.zero_le _))
  refine Grow.ints ap8 gA (k9.ar.new nA) rfl (by rw [headL_len]; omega) (by omega) fun aB cB hB gB => ?_
  rw [List.nil_append] at gB ⊢
  have kB : Got .u8 5 h9 hB aB cB (headL x) := gB.got nA (fun b e => by injection e with e; omega)
  refine Grow.ints ap8 gB (s.ar.new ((n1.trans k9.new).trans kB.new)) rfl (by rw [headL_len]; omega) (by omega) fun aC cC hC gC => ?_
  have kC : Got .u8 5 h9 hC aC cC (headL x ++ bs) := gC.got nA (fun b e => by injection e with e; omega)
  have hCl : (headL x ++ bs).length = 29 := by rw [List.length_append, headL_len]; omega
  refine call_of (of_ok aC cC (headL x ++ bs) _ rfl hC (by omega) ((headL_byt hx).app s.byt) kC.ar) ?_
  rintro v h' ⟨rfl, hh⟩; subst h'
  refine ⟨sumL (headL x ++ bs), rfl, call_of (four_ok _ (sumL_range _) hC) ?_⟩
  rintro v hD ⟨aD, rfl, gD⟩
  refine ⟨(aD, 4, 4), rfl, more hD a9 c9 (headL x) (four (sumL (headL x ++ bs))) aD 4 4 ((k9.after kC.new).after gD.new) (by simp [headL]) gD.ar rfl (by rw [headL_len]; omega) _ fun aE cE hE kE => ?_⟩
  have hEl : (headL x ++ four (sumL (headL x ++ bs))).length = 17 := by rw [List.length_append, headL_len, four_len]
  refine more hE aE cE _ bs a c _ kE (by simp [headL]) (s.ar.new (n1.trans kE.new)) rfl (by omega) _ fun aF cF hF kF => ?_
  exact ⟨aF, cF, rfl, kF.before n1⟩
def ReadR (p : List Int) (h : Heap) (v : Value) (h' : Heap) : Prop := ∃ a' c', v = .tuple #[hdV (readF p).1, .slice a' (readF p).2.1.length c', .int .i64 (readF p).2.2] ∧ Got .u8 5 h h' a' c' (readF p).2.1
theorem read_ok (a : Option Addr) (c : Nat) (p : List Int) (h : Heap) (s : Sl8 h a c p) : CallsH Tryz.prog 56 [.slice a p.length c] h (ReadR p h) := by
  refine fun_ok hm' Tryz.func56 (by kernel_rfl) (F56_eq _ _ _ _ h) ?_
  unfold F56
  rw [zeroR]
  refine new_of fun h1 b1 n1 z1 => ?_
  have out : ∀ (x : Hd) (h2 : Heap) (e : Value) (b : Option Addr) (m c' : Nat), (∃ A, Blk h2 h.size A 48 ∧ A.size = 4) → New h h2 → (∀ h', Upd h.size h2 h' → New h h' → ReadR p h (.tuple #[hdV x, .slice b m c', e]) h') →
      stLW ⟨h.size, 0, none⟩ [.int .u8 x.1, .int .u32 x.2.1, .int .u32 x.2.2.1, .int .u32 x.2.2.2] (fun h3 => ldAggW [.int .u8, .int .u32, .int .u32, .int .u32] ⟨h.size, 0, none⟩ (fun (y : Int × Int × Int × Int) => ReadR p h (.tuple #[.agg #[.int .u8 y.1, .int .u32 y.2.1, .int .u32 y.2.2.1, .int .u32 y.2.2.2], .slice b m c', e]) h3) h3) h2 := by
    intro x h2 e b m c' ⟨A, bA, hA⟩ n2 hK
    refine stL_blk bA (by rw [hA]; exact Nat.le_refl _) fun h3 b3 o3 => ?_
    have b3 : Blk h3 h.size (hdA x) 48 := by rw [setsA_all (by rw [hA]; rfl)] at b3; exact b3
    exact ldAgg_blk x b3 ⟨rfl, rfl, rfl, rfl, trivial⟩ (hK h3 o3.upd (o3.upd.new n2 (Nat.le_refl _)))
  refine br_of (fun h0 => ?_) fun h0 => ?_
  · have h0 : p.length ≠ 33 := by simp at h0; omega
    have ef : readF p = ((0, 0, 0, 0), [], 3) := if_pos h0
    exact out (0, 0, 0, 0) h1 _ none 0 0 ⟨_, b1, rfl⟩ n1 fun h' _ n' => ⟨none, 0, by rw [ef]; rfl, by rw [ef]; exact Got.nil _ _ n'⟩
  have h33 : p.length = 33 := by simp at h0; omega
  have s1 := s.new n1
  have hle := s.le
  rw [h33]
  have hnum : ∀ (k : Nat), k + 4 ≤ 33 → ((p.drop k).take (33 - k)) = p.drop k := fun k hk => List.take_of_length_le (by simp; omega)
  refine s1.sl 0 13 c rfl rfl rfl (by omega) (by omega) (by omega) (Nat.le_refl _) fun b2 d2 s2 => ?_
  rw [List.drop_zero] at s2
  have s2 : Sl8 h1 b2 d2 (p.take 13) := s2
  have h13 : (p.take 13).length = 13 - 0 := by simp; omega
  refine s1.sl 17 33 c rfl rfl rfl (by omega) (by omega) (by omega) (Nat.le_refl _) fun bB dB sB => ?_
  rw [hnum 17 (by omega)] at sB
  have hBl : (p.drop 17).length = 33 - 17 := by simp; omega
  refine new_of fun h2 bA nA zA => ?_
  have gA : Grow h2 (some h1.size) h2 5 1 (some ⟨h1.size, 0, none⟩) 0 0 (([] : List Int).map (Value.int .u8)) := Grow.start (RowS.blk bA rfl (Nat.zero_le _))
  refine Grow.ints ap8 gA (s2.ar.new nA) h13.symm (by omega) (by omega) fun a3 c3 h3 g3 => ?_
  rw [List.nil_append] at g3 ⊢
  have k3 : Got .u8 5 h1 h3 a3 c3 (p.take 13) := g3.got nA (fun b e => by injection e with e; omega)
  refine Grow.ints ap8 g3 (sB.ar.new k3.new) hBl.symm (by omega) (by omega) fun a4 c4 h4 g4 => ?_
  have k4 : Got .u8 5 h1 h4 a4 c4 (p.take 13 ++ p.drop 17) := g4.got nA (fun b e => by injection e with e; omega)
  have n04 := n1.trans k4.new
  have s4 := s.new n04
  refine of_q a4 c4 _ _ rfl h4 (by rw [List.length_append]; omega) ((s.byt.take _).app (s.byt.drop _)) k4.ar ?_
  have hw : ∀ (k : Nat), k + 4 ≤ 33 → ∀ {F : Int → Prop}, F (wordAt p k) → slW a c 1 (k : Int) ((k + 4 : Nat) : Int) (c : Int) (fun b n d => callQ Tryz.prog 81 [.slice b n d] [.sc (.int .u32)] F h4) := by
    intro k hk F hF
    refine s4.sl k (k + 4) c rfl rfl rfl (by omega) (by omega) (by omega) (Nat.le_refl _) fun b d sb => ?_
    rw [show k + 4 - k = 4 by omega] at sb ⊢
    refine back_q b d _ _ (by simp; omega) h4 sb (by simp; omega) ?_
    have e : wordAt ((p.drop k).take 4) 0 = wordAt p k := by
      simp only [wordAt, bys_take (show 0 < 4 by omega), bys_take (show 0 + 1 < 4 by omega), bys_take (show 0 + 2 < 4 by omega), bys_take (show 0 + 3 < 4 by omega), bys_drop, Nat.zero_add, Nat.add_zero]
    rw [e]; exact hF
  have b1' : Blk h4 h.size (hdA (0, 0, 0, 0)) 48 := b1.new k4.new
  refine hw 13 (by omega) (br_of (fun h5 => ?_) fun h5 => ?_)
  · have h5 : sumL (p.take 13 ++ p.drop 17) ≠ wordAt p 13 := by simpa using h5
    have ef : readF p = ((0, 0, 0, 0), [], 4) := by unfold readF; rw [if_neg (by omega), if_pos h5]
    exact out (0, 0, 0, 0) h4 _ none 0 0 ⟨_, b1', rfl⟩ n04 fun h' _ n' => ⟨none, 0, by rw [ef]; rfl, by rw [ef]; exact Got.nil _ _ n'⟩
  have h5 : sumL (p.take 13 ++ p.drop 17) = wordAt p 13 := by simpa using h5
  refine s4.at_ 0 rfl (by omega) (by omega) (hw 1 (by omega) (hw 5 (by omega) (hw 9 (by omega) (new_stL (by rfl) fun h6 b6 n6 z6 => ?_))))
  have b6 : Blk h6 h4.size (hdA (hdOf p)) 48 := b6
  refine ldAgg_blk (hdOf p) b6 ⟨rfl, rfl, rfl, rfl, trivial⟩ (call_of (right_ok (hdOf p) h6) ?_)
  rintro v h7 ⟨rfl, n7⟩
  have n07 := (n04.trans n6).trans n7
  have b1'' : Blk h7 h.size (hdA (0, 0, 0, 0)) 48 := (b1'.new n6).new n7
  refine ⟨isR (hdOf p), rfl, ?_⟩
  cases hr : isR (hdOf p) with
  | false =>
    have ef : readF p = ((0, 0, 0, 0), [], 2) := by unfold readF; rw [if_neg (by omega), if_neg (by simp [h5]), if_pos hr]
    exact br_t rfl (out (0, 0, 0, 0) h7 _ none 0 0 ⟨_, b1'', rfl⟩ n07 fun h' _ n' => ⟨none, 0, by rw [ef]; rfl, by rw [ef]; exact Got.nil _ _ n'⟩)
  | true =>
  have ef : readF p = (hdOf p, p.drop 17, 0) := by unfold readF; rw [if_neg (by omega), if_neg (by simp [h5]), if_neg (by simp [hr])]
  refine br_f rfl (ldAgg_blk (hdOf p) (b6.new n7) ⟨rfl, rfl, rfl, rfl, trivial⟩ ?_)
  refine (s.new n07).sl 17 33 c rfl rfl rfl (by omega) (by omega) (by omega) (Nat.le_refl _) fun b8 d8 s8 => ?_
  rw [hnum 17 (by omega)] at s8
  refine new_of fun h9 b9 n9 z9 => ?_
  have g9 : Grow h9 (some h7.size) h9 5 1 (some ⟨h7.size, 0, none⟩) 0 0 (([] : List Int).map (Value.int .u8)) := Grow.start (RowS.blk b9 rfl (Nat.zero_le _))
  refine Grow.ints ap8 g9 (s8.ar.new n9) hBl.symm (by omega) (by omega) fun aA cA hA gA => ?_
  rw [List.nil_append] at gA ⊢
  have kA : Got .u8 5 h7 hA aA cA (p.drop 17) := gA.got n9 (fun b e => by injection e with e; omega)
  have b6' := (b6.new n7).new kA.new
  refine ⟨by simp only [add_mk, cellH_blk b6']; first | rfl | trivial, by simp only [add_mk, cellH_blk b6']; first | rfl | trivial, by simp only [add_mk, cellH_blk b6']; first | rfl | trivial, by simp only [add_mk, cellH_blk b6']; first | rfl | trivial, ?_⟩
  refine out (hdOf p) hA _ aA _ cA ⟨_, b1''.new kA.new, rfl⟩ (n07.trans kA.new) fun h' u' n' => ⟨aA, cA, by rw [ef], ?_⟩
  rw [ef]
  exact ⟨kA.row.keep u'.size fun g hg hl => u'.same g hl fun e => by have := kA.at_ (fun e0 => by rw [e0] at hBl; simp at hBl) g hg; have := ((k4.new.trans n6).trans n7).size; omega, n', fun hx b hb => Nat.le_trans n07.size (kA.at_ hx b hb)⟩
end Go.Proofs.YtgohecjnjadnpaaGreatDoor.R4
