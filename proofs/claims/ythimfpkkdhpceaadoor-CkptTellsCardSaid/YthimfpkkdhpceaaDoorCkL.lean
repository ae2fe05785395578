/-
  Bytes laid behind a row, which is then an own one.
-/
import Derived.Test.YthimfpkkdhpceaaDoorCkB
namespace Go.Proofs.YthimfpkkdhpceaaDoor.Ck
open Go.Pl Go.Proofs.YthimfpkkdhpceaaDoor.W Go.Proofs.YthimfpkkdhpceaaDoor.Byts Go.Proofs.YthimfpkkdhpceaaDoor.Four Go.Proofs.YthimfpkkdhpceaaDoor.Adl Go.Proofs.YthimfpkkdhpceaaDoor.Head Go.Proofs.YthimfpkkdhpceaaDoor.Geo
theorem push_own {h0 h : Heap} {r0 : Option Nat} {n c : Nat} {a : Option Addr} {xs : List Value} {x : Int} (g : Grow h0 r0 h 5 1 a n c xs) (hn : n ≤ 1000000) {F : Option Addr → Nat → Nat → Heap → Prop}
    (hF : ∀ a' c' h', Grow h0 r0 h' 5 1 a' (n + 1) c' (xs ++ [.int .u8 x]) → OwnH h' 0 5 1 a' (n + 1) c' (xs ++ [.int .u8 x]) → F a' (n + 1) c' h') :
    newW (.cells #[.int .u8 x] 5) (fun p h' => apW Tryd.prog #[55, 55] #[.slice a n c, .slice (some p) 1 1] F h') h := by
  refine new_of fun h1 b1 n1 s1 => ?_
  have g1 := g.new n1
  refine ap_row ap8 g1.row [.int .u8 x] (by simp) (fun j u hu => ?_) (fun u hu => by rw [List.mem_singleton.1 hu]; rfl) (by simp only [maxLen]; omega) (by omega) fun a' c' h' r w o => hF a' c' h' (g1.went r w) (o (by omega))
  have hj : j = 0 := by have := (List.getElem?_eq_some_iff.1 hu).1; simp at this; omega
  subst hj
  rw [add_mk, cellH_blk b1]; exact hu
theorem lay_own (a : Option Addr) (c : Nat) (xs : List Int) (n : Int) (h : Heap) (r : RowS h 5 1 a xs.length c (xs.map (Value.int .u8))) (hl : xs.length ≤ 100000) :
    CallsH Tryd.prog 44 [.slice a xs.length c, .int .u32 n] h fun v h' => ∃ a' c', v = .slice a' (xs ++ four n).length c' ∧ Grow h (blkOf a) h' 5 1 a' (xs ++ four n).length c' ((xs ++ four n).map (Value.int .u8)) ∧ OwnH h' 0 5 1 a' (xs ++ four n).length c' ((xs ++ four n).map (Value.int .u8)) := by
  refine fun_ok Geo.hm' Tryd.func44 (by kernel_rfl) (F44_eq _ _ _ _ _ h) ?_
  unfold F44
  refine ⟨fun (s : (Option Addr × Nat × Nat) × Int) h' => ∃ i : Nat, s.2 = i ∧ i ≤ 4 ∧ s.1.2.1 = (xs ++ (four n).take i).length ∧ Grow h (blkOf a) h' 5 1 s.1.1 (xs ++ (four n).take i).length s.1.2.2 ((xs ++ (four n).take i).map (Value.int .u8)) ∧ (0 < i → OwnH h' 0 5 1 s.1.1 (xs ++ (four n).take i).length s.1.2.2 ((xs ++ (four n).take i).map (Value.int .u8))), fun (s : (Option Addr × Nat × Nat) × Int) _ => (4 - s.2).toNat, ⟨0, rfl, by omega, by simp, by simpa using Grow.start r, fun e => by omega⟩, ?_⟩
  rintro ⟨⟨oa, on, oc⟩, s⟩ j h2 ⟨i, hs, hi, hon, g2, w2⟩
  have hs : s = (i : Int) := hs
  have hon : on = (xs ++ (four n).take i).length := hon
  have g2' : Grow h (blkOf a) h2 5 1 oa (xs ++ (four n).take i).length oc ((xs ++ (four n).take i).map (Value.int .u8)) := g2
  subst hs; subst hon
  refine br_of (fun hlt => ?_) (fun hlt => ?_)
  · have hlt : (i : Int) < 4 := of_decide_eq_true hlt
    have h8 : IntKind.wrap .i64 ((8 : Int) * (i : Int)) = 8 * (i : Int) := wr64 (by omega) (by omega)
    have ez : IntKind.wrap .i64 ((i : Int) + 1) = ((i + 1 : Nat) : Int) := (by first | (rw [wr64 (by omega) (by omega)]; omega) | (simp only [IntKind.wrap_i64]; omega))
    simp only [h8]
    refine ck_t (decide_eq_true (by omega)) ?_
    rw [shr_byte n i (by omega) rfl]
    have hL : (xs ++ (four n).take i).length ≤ 1000000 := by rw [List.length_append, List.length_take]; omega
    refine push_own g2' hL fun a' c' h3 g3 w3 => ?_
    have et : xs ++ (four n).take (i + 1) = xs ++ (four n).take i ++ [byteAt n i] := by
      rw [List.take_add_one, four_get n (by omega), List.append_assoc]; rfl
    have el : (xs ++ (four n).take i).length + 1 = (xs ++ (four n).take (i + 1)).length := by rw [et]; simp; omega
    have em : (xs ++ (four n).take i).map (Value.int .u8) ++ [.int .u8 (byteAt n i)] = (xs ++ (four n).take (i + 1)).map (Value.int .u8) := by rw [et]; simp
    rw [el, em] at g3 w3
    simp only [ez, el]
    exact ⟨⟨i + 1, rfl, by omega, rfl, g3, fun _ => w3⟩, (by first | omega | (dsimp only; omega) | (simp only []; omega))⟩
  · have hlt : ¬ (i : Int) < 4 := of_decide_eq_false hlt
    have : i = 4 := by omega
    subst this
    have e : (four n).take 4 = four n := rfl
    have w2 := w2 (by omega)
    rw [e] at g2' w2 ⊢
    exact ⟨oa, oc, rfl, g2', w2⟩
end Go.Proofs.YthimfpkkdhpceaaDoor.Ck
