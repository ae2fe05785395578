/-
  Going through a checkpoint's numbers.
-/
import Derived.Test.YthimfpkkdhpceaaDoorCkG
namespace Go.Proofs.YthimfpkkdhpceaaDoor.Ck
open Go.Pl Go.Proofs.YthimfpkkdhpceaaDoor.W Go.Proofs.YthimfpkkdhpceaaDoor.Byts Go.Proofs.YthimfpkkdhpceaaDoor.Four Go.Proofs.YthimfpkkdhpceaaDoor.Adl Go.Proofs.YthimfpkkdhpceaaDoor.Head Go.Proofs.YthimfpkkdhpceaaDoor.Geo
theorem yield_of {P : Program} {T : Ty} {l : Nat} {args : List Value} {F : T.T → Heap → Prop} {h : Heap} {R : Bool → Heap → Prop} (hY : YieldH P l args h R) (hR : ∀ b h', R b h' → ∃ s : T.T, Value.bool b = T.val s ∧ F s h') : callW P T (.func (.yield l) #[] #[]) args F h := YieldH.mono hY hR
theorem all_ok (c : Chk) (da : Option Addr) (dc : Nat) (h : Heap) :
    CallsH Tryd.prog 43 [chkV c da dc] h fun v h' => v = .func (.func 83) #[] #[.pointer (some ⟨h.size, 0, none⟩)] ∧ Blk h' h.size (chkA c da dc) 27 ∧ New h h' ∧ h'.size = h.size + 1 := by
  refine fun_ok Geo.hm' Tryd.func43 (by kernel_rfl) (F43_eq _ _ _ _ _ _ _ _ _ _ h) ?_
  unfold F43
  exact new_of fun h1 b1 n1 s1 => ⟨rfl, b1, n1, s1⟩
theorem range_nums {Inner : Nat → LoopO → TT [.sc (.int .u32)] → (Bool → Heap → Prop) → Heap → Prop} {E : Nat → LoopO → Heap → Prop} {h : Heap} {cap dc : Nat} {da : Option Addr} {T : TypeId} (c : Chk) (hr : rightC c = true)
    (J : Heap → Nat → List Int → Heap → Prop)
    (j0 : ∀ hq l, New h hq → h.size ≤ l → l < hq.size → J hq l [] hq)
    (jo : ∀ hq l pre h1 h2, J hq l pre h1 → Only l h1 h2 → J hq l pre h2)
    (js : ∀ hq l pre h1, J hq l pre h1 → hq.size ≤ h1.size ∧ ∀ b, h.size ≤ b → b < hq.size → b ≠ l → h1[b]? = hq[b]?)
    (hc : Blk h cap (chkA c da dc) T) (hd : Ar .u32 h da c.dir)
    (hI : ∀ hq l o Y pre (x : Int) post h1, numsC c = pre ++ x :: post → J hq l pre h1 → (∀ h2, J hq l (pre ++ [x]) h2 → roundEnd l (LoopO.rdy o) (Y true) h2) → Inner l o x Y h1)
    (hE : ∀ hq l o h3, (∀ N : Heap → Prop, (∀ h4, J hq l (numsC c) h4 → N h4) → roundDone l (LoopO.rdy o) N h3) → E l o h3) :
    rangeW Tryd.prog 83 [] [.pointer (some ⟨cap, 0, none⟩)] [.sc (.int .u32)] (fun l o s Y h1 => roundIn l o (Inner l o s Y) h1) E h := by
  rintro l o ho hl0 hy
  have nb : New h ((h.push (.deferred (some []))).push o.rdy) := (New.push _ _).trans (New.push _ _)
  have hrdy : ((h.push (.deferred (some []))).push o.rdy)[h.size + 1]? = some o.rdy := by rw [Array.getElem?_push, if_pos (by simp)]
  have hsz : ((h.push (.deferred (some []))).push o.rdy).size = h.size + 2 := by simp
  rw [← hl0] at hrdy
  generalize (h.push (.deferred (some []))).push o.rdy = hb0 at *
  obtain ⟨_, hz, hp, hb, hdl⟩ := right_c hr
  have ht : tabN c.b ≤ 16 ∧ 1 ≤ tabN c.b := by unfold tabN; omega
  refine fun_ok Geo.hm' Tryd.func83 (by kernel_rfl) (F83_eq _ _ _ hb0) ?_
  unfold F83
  have bc := hc.new nb
  refine ld_of (c := .int .u32) c.num (by rw [add_mk, cellH_blk bc]; rfl) (ld_of (c := .int .u32) c.ses (by rw [add_mk, cellH_blk bc]; rfl) (ld_of (c := .int .u32) c.seq (by rw [add_mk, cellH_blk bc]; rfl) (ld_of (c := .int .i64) c.z (by rw [add_mk, add_mk, cellH_blk bc]; rfl) (ld_of (c := .int .i64) c.p (by rw [add_mk, add_mk, cellH_blk bc]; rfl) (ld_of (c := .int .i64) c.b (by rw [add_mk, add_mk, cellH_blk bc]; rfl) ?_)))))
  have w : ∀ x : Int, 0 ≤ x ∧ x ≤ 100 → IntKind.wrap .u32 x = x := fun x hx => by rw [wru32]; omega
  rw [w c.z (by omega), w c.p (by omega), w c.b (by omega)]
  refine new_of fun h1 b1 n1 s1 => ld_of (c := .slice) (da, c.dir.length, dc) (by rw [add_mk, cellH_blk (bc.new n1)]; rfl) (new_of fun h2 b2 n2 s2 => ?_)
  have n02 := (nb.trans n1).trans n2
  have rw2 : RW h2 (some ⟨h1.size, 0, none⟩) [[c.num, c.ses, c.seq, c.z, c.p, c.b], c.dir] := fun i bs hi => by
    match i, hi with
    | 0, hi =>
      injection hi with hi; subst hi
      exact ⟨h1.size, 0, _, 6, rfl, b2.lt, by rw [cellH_blk b2]; rfl, Ar.blk (b1.new n2)⟩
    | 1, hi =>
      injection hi with hi; subst hi
      exact ⟨h1.size, 0, da, dc, rfl, b2.lt, by rw [cellH_blk b2]; rfl, hd.new n02⟩
    | i + 2, hi => simp at hi
  have hnl : (numsC c).length = 6 + c.dir.length := by unfold numsC; simp; omega
  have hfl : ([[c.num, c.ses, c.seq, c.z, c.p, c.b], c.dir] : List (List Int)).flatten = numsC c := by unfold numsC; simp
  have hcc := concat32_ok (some ⟨h1.size, 0, none⟩) 2 [[c.num, c.ses, c.seq, c.z, c.p, c.b], c.dir] h2 rw2 (by simp) (by rw [hfl, hnl]; omega) (fun b hb e => by
    simp only [List.mem_cons, List.not_mem_nil, or_false] at hb
    rcases hb with hb | hb
    · rw [hb] at e; cases e
    · rw [hb] at e; rw [e] at hdl; simp at hdl; omega)
  rw [hfl] at hcc
  refine call_of hcc ?_
  rintro v h3 ⟨a, ca, rfl, own, n3⟩
  have n03 := n02.trans n3
  have hs1 := (n1.trans n2).size
  have hs3 := n3.size
  have r3 : h3[l]? = some o.rdy := (((n1.trans n2).trans n3).same l (by omega)).trans hrdy
  have ar := Ar.own own
  refine ⟨(a, (numsC c).length, ca), rfl, ?_⟩
  refine ⟨fun (s : Int) h' => ∃ i : Nat, s = i ∧ i ≤ (numsC c).length ∧ J h3 l ((numsC c).take i) h' ∧ h'[l]? = some o.rdy, fun (s : Int) _ => (((numsC c).length : Int) - s).toNat, ⟨0, rfl, Nat.zero_le _, j0 h3 l n03 (by omega) (by omega), r3⟩, ?_⟩
  rintro s j h4 ⟨i, rfl, hi, J4, r4⟩
  refine br_of (fun hlt => ?_) (fun hlt => ?_)
  · have hlt : (i : Int) < ((numsC c).length : Int) := of_decide_eq_true hlt
    have hiL : i < (numsC c).length := by omega
    obtain ⟨sz, sm⟩ := js _ _ _ _ J4
    have ar4 : Ar .u32 h4 a (numsC c) := fun m x hx => by
      obtain ⟨b, q, e, hpb, hcb⟩ := ar m x hx
      have hge := (own.blk_ge b (by rw [e]; rfl)).1
      have := n02.size
      exact ⟨b, q, e, by omega, by rw [cellH_same (sm b (by omega) hpb (by omega))]; exact hcb⟩
    refine ix_ld ar4 hiL hiL ?_
    have hsplit : numsC c = (numsC c).take i ++ (numsC c)[i] :: (numsC c).drop (i + 1) := by rw [← List.drop_eq_getElem_cons hiL, List.take_append_drop]
    have ez : IntKind.wrap .i64 ((i : Int) + 1) = ((i + 1 : Nat) : Int) := (by first | (rw [wr64 (by omega) (by omega)]; omega) | (simp only [IntKind.wrap_i64]; omega))
    have hY := hy (numsC c)[i] h4 (fun t h' => t = true ∧ J h3 l ((numsC c).take (i + 1)) h' ∧ h'[l]? = some o.rdy) r4 ⟨r4, fun h5 o5 _ => hI h3 l o _ ((numsC c).take i) (numsC c)[i] ((numsC c).drop (i + 1)) h5 hsplit (jo _ _ _ _ _ J4 o5) fun h6 J6 h7 o7 r7 => ⟨rfl, by rw [← List.take_append_getElem hiL]; exact jo _ _ _ _ _ J6 o7, r7⟩⟩
    refine yield_of hY ?_
    rintro t h5 ⟨rfl, J5, r5⟩
    refine ⟨true, rfl, br_f rfl ?_⟩
    rw [ez]
    exact ⟨⟨i + 1, rfl, hiL, J5, r5⟩, (by first | omega | (dsimp only; omega) | (simp only []; omega))⟩
  · have hlt : ¬ (i : Int) < ((numsC c).length : Int) := of_decide_eq_false hlt
    have : i = (numsC c).length := by omega
    subst this
    rw [List.take_length] at J4
    exact hE h3 l o h4 fun N hN => ⟨r4, fun h5 o5 => hN h5 (jo _ _ _ _ _ J4 o5)⟩
end Go.Proofs.YthimfpkkdhpceaaDoor.Ck
