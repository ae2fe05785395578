/-
  slices.Sort at []uint32: its contract at an own row.
-/
import Derived.Test.YtfanjfbenhocnaaGreatDoorSoU
import Derived.Test.YtfanjfbenhocnaaGreatDoorOwn
namespace Go.Proofs.YtfanjfbenhocnaaGreatDoor.SrtU
open Go.Pl Go.Proofs.YtfanjfbenhocnaaGreatDoor.W Go.Sort
open Go.Proofs.YtfanjfbenhocnaaGreatDoor.So (hm' El TE lt Rw swo pdq_ok)
theorem wrU {z : Int} (h0 : 0 ≤ z) (h1 : z < 18446744073709551616) : IntKind.wrap .u64 z = z := by simp [IntKind.wrap, IntKind.bits, IntKind.signed]; omega
theorem sort0_ok (h : Heap) (a : Option Addr) (c : Nat) : CallsH Tryz.prog 71 [.slice a 0 c] h fun v h' => v = .tuple #[] ∧ h' = h := by
  refine fun_ok hm' Tryz.func71 (by kernel_rfl) (F71_eq _ _ _ _ h) ?_
  unfold F71
  rw [show IntKind.wrap .u64 ((0 : Nat) : Int) = ((0 : Nat) : Int) by decide]
  refine call_of (Len.len_ok 0 (by omega) h) ?_
  rintro v h' ⟨hh, t, rfl, _⟩; subst h'
  refine ⟨(t : Int), rfl, call_of (R := fun v h' => v = .tuple #[] ∧ h' = h) ?_ ?_⟩
  · refine fun_ok hm' Tryz.func72 (by kernel_rfl) (F72_eq _ _ _ _ _ _ _ h) ?_
    unfold F72
    refine ⟨fun (s : Int × Int × Int × Bool × Bool) h' => h' = h ∧ s.1 = 0 ∧ s.2.1 = 0, fun _ _ => 0, ⟨rfl, rfl, rfl⟩, ?_⟩
    rintro ⟨s1, s2, s3, s4, s5⟩ j h' ⟨hh, e1, e2⟩; subst h'
    have e1 : s1 = (0 : Int) := e1
    have e2 : s2 = (0 : Int) := e2
    subst e1; subst e2
    refine br_t (by show decide (IntKind.wrap .i64 ((0 : Int) - 0) ≤ 12) = true; decide) (call_of (R := fun v h' => v = .tuple #[] ∧ h' = h) ?_ ?_)
    · refine fun_ok hm' Tryz.func74 (by kernel_rfl) (F74_eq _ _ _ _ _ _ h) ?_
      unfold F74
      refine ⟨fun (s : Int) h' => h' = h ∧ s = 1, fun _ _ => 0, ⟨rfl, by show IntKind.wrap .i64 ((0 : Int) + 1) = 1; decide⟩, ?_⟩
      rintro s j h' ⟨hh, e1⟩; subst h'
      have e1 : s = (1 : Int) := e1
      subst e1
      exact br_f (by show decide ((1 : Int) < 0) = false; decide) ⟨rfl, rfl⟩
    · rintro v h' ⟨rfl, hh⟩; subst h'
      exact ⟨(), rfl, rfl, rfl⟩
  · rintro v h' ⟨rfl, hh⟩; subst h'
    exact ⟨(), rfl, rfl, rfl⟩
theorem sort_ok {h : Heap} {base g c : Nat} {xs : List Int} (hl : xs.length < 256) (ow : OwnH h base TE 1 (some ⟨g, 0, none⟩) xs.length c (xs.map (Value.int .u32))) :
    CallsH Tryz.prog 71 [.slice (some ⟨g, 0, none⟩) xs.length c] h fun v h' => v = .tuple #[] ∧ ∃ ys : List Int, ys.Perm xs ∧ ys.Pairwise (fun a b => a ≤ b) ∧ OwnH h' base TE 1 (some ⟨g, 0, none⟩) xs.length c (ys.map (Value.int .u32)) ∧ Upd g h h' := by
  refine fun_ok hm' Tryz.func71 (by kernel_rfl) (F71_eq _ _ _ _ h) ?_
  unfold F71
  rw [wrU (by omega) (by omega)]
  refine call_of (Len.len_ok xs.length hl h) ?_
  rintro v h' ⟨hh, t, rfl, ht, _⟩; subst h'
  obtain ⟨ol, ⟨e, _⟩ | ⟨g', cap, cur, e1, hb0, hgb, hnc, hcm, hcs, htk⟩⟩ := ow
  · cases e
  injection e1 with e1 e2 e3
  injection e1 with e1; injection e1 with e1; subst e1; subst e3
  have H : Rw h h g xs.length c xs.toArray := by
    refine ⟨⟨cur, hgb, by omega, fun i hi => ?_⟩, by simp, hnc, Upd.refl _ _, by omega⟩
    have h1 : (xs.map (Value.int .u32))[i]? = some (.int .u32 xs[i]) := by simp [hi]
    rw [← htk, List.getElem?_take, if_pos (by omega)] at h1
    rw [getElem!_pos xs.toArray i (by simpa using hi)]
    simpa using h1
  refine ⟨(t : Int), rfl, call_of (pdq_ok hl (xs.length + 1) 0 xs.length t xs.toArray h (by omega) H (by omega) (by omega) (Or.inl rfl) (by omega)) ?_⟩
  rintro v h' ⟨rfl, d', p1, p2, H'⟩
  refine ⟨(), rfl, rfl, d'.toList, ?_, ?_, ?_, H'.upd⟩
  · have e1 := p1.2.2
    have hsz := H'.size
    have x1 : (d'.extract 0 xs.length).toList = d'.toList := by rw [← hsz]; simp
    have x2 : (xs.toArray.extract 0 xs.length).toList = xs := by simp
    rw [x1, x2] at e1
    exact e1
  · have hsz := H'.size
    rw [List.pairwise_iff_getElem]
    intro i j hi hj hij
    have hi' : i < d'.size := by simpa using hi
    have hj' : j < d'.size := by simpa using hj
    have := p2 i j (by omega) hij (by omega)
    rw [getElem!_pos d' i hi', getElem!_pos d' j hj'] at this
    have this : decide (d'[j] < d'[i]) = false := this
    have := of_decide_eq_false this
    show d'.toList[i] ≤ d'.toList[j]
    rw [Array.getElem_toList, Array.getElem_toList]
    exact Int.not_lt.1 this
  · have hsz := H'.size
    obtain ⟨A, hA, hAs, hAc⟩ := H'.blk
    refine ⟨by simp; omega, .inr ⟨g, c, A, rfl, hb0, hA, hnc, hcm, by omega, ?_⟩⟩
    apply List.ext_getElem?
    intro m
    rw [List.getElem?_take]
    by_cases hm : m < xs.length * 1
    · rw [if_pos hm]
      have hmi : m < d'.size := by omega
      have h2 := hAc m (by omega)
      rw [getElem!_pos d' m hmi] at h2
      rw [List.getElem?_map, Array.getElem?_toList, Array.getElem?_toList, h2, Array.getElem?_eq_getElem hmi]; rfl
    · rw [if_neg hm, List.getElem?_eq_none (by simp; omega)]
end Go.Proofs.YtfanjfbenhocnaaGreatDoor.SrtU
