/-
  The contracts of package lru: New.
-/
import Derived.Test.YtfanjfbenhocnaaGreatDoorLruW
import Derived.Test.YtfanjfbenhocnaaGreatDoorApp
namespace Go.Proofs.YtfanjfbenhocnaaGreatDoor.Lru
open Go.Pl Go.Pl.Lru Go.Proofs.YtfanjfbenhocnaaGreatDoor.W
theorem yield_of {P : Program} {T : Ty} {l : Nat} {args : List Value} {F : T.T → Heap → Prop} {h : Heap} {R : Bool → Heap → Prop} (hY : YieldH P l args h R) (hR : ∀ b h', R b h' → ∃ s : T.T, Value.bool b = T.val s ∧ F s h') : callW P T (.func (.yield l) #[] #[]) args F h := YieldH.mono hY hR
def ints (l : List Nat) : List Value := l.map fun (x : Nat) => Value.int .i64 x
theorem repL_get (n : Nat) (v : Value) (r : List Value) (i : Nat) : (repL n [v] r)[i]? = if i < n then some v else r[i - n]? := by
  have e : (List.replicate n [v]).flatten = List.replicate n v := by
    induction n with
    | zero => rfl
    | succ n ih => rw [List.replicate_succ, List.flatten_cons, ih, List.replicate_succ]; rfl
  simp only [repL, e, List.getElem?_toArray, List.getElem?_append, List.length_replicate, List.getElem?_replicate]
  split <;> rfl
theorem repL_size (n : Nat) (v : Value) (r : List Value) : (repL n [v] r).size = n + r.length := by simp [repL]
theorem new_no (x : Int) (h : Heap) (hx : x < 1 ∨ 64 < x) : CallsH Tryz.prog 26 [.int .i64 x] h fun v h' => v = .tuple #[.pointer none, .iface 30 (.int .i64 1)] ∧ h' = h := by
  refine fun_ok hm' Tryz.func26 (by kernel_rfl) (F26_eq _ _ h) ?_
  unfold F26
  refine cut_of (br_of (fun _ => ⟨rfl, rfl⟩) fun h0 => br_of (fun _ => ⟨rfl, rfl⟩) fun h1 => ?_)
  simp at h0 h1; omega
theorem new_ok (S : Nat) (h : Heap) (h1 : 1 ≤ S) (h2 : S ≤ 64) : CallsH Tryz.prog 26 [.int .i64 S] h fun v h' => v = .tuple #[.pointer (some ⟨h.size, 0, none⟩), .nilIface] ∧ RkOk h' h.size S (fun _ => []) ∧ New h h' := by
  refine fun_ok hm' Tryz.func26 (by kernel_rfl) (F26_eq _ _ h) ?_
  unfold F26
  refine cut_of (br_f (by simp; omega) (br_f (by simp; omega) fun _ => new_of fun h3 b3 n3 s3 => ?_))
  refine ⟨fun (s : Int) h' => ∃ i : Nat, s = i ∧ i ≤ 66 ∧ Only h.size h3 h' ∧ RkAt h' h.size (fun j => if j < i then j else 0) (fun j => if j < i then j else 0) (fun j => if j < i then 2 else 0) (fun _ => 0) S,
    fun (s : Int) _ => (66 - s).toNat, ⟨0, rfl, by omega, Only.refl _ _, ⟨_, _, b3, ?_⟩⟩, ?_⟩
  · refine ⟨by rw [repL_size]; rfl, fun i hi => ?_, fun i hi => ?_, fun i hi => ?_, fun i hi => ?_, ?_⟩ <;> rw [repL_get] <;> first | (rw [if_pos (by omega)]; rfl) | (rw [if_neg (by omega)]; rfl)
  · rintro s j h4 ⟨i, rfl, hi, o4, a4⟩
    generalize hB : h.size = B at *
    simp only [add_mk, Nat.zero_add]
    refine br_of (fun hlt => ?_) (fun hlt => ?_)
    · have hlt : i < 66 := by simp at hlt; omega
      have upd : ∀ (v : Nat → Nat), (∀ j, (fun j => if j < i + 1 then v j else 0) j = up (fun j => if j < i then v j else 0) i (v i) j) := by
        intro v j
        by_cases e : j = i
        · subst e; rw [up_same]; simp
        · rw [up_ne _ _ e]; simp only []; by_cases hh : j < i <;> simp [hh] <;> omega
      refine ⟨⟨by omega, rfl⟩, ?_⟩
      simp only [Int.toNat_natCast, Nat.mul_one]
      refine st_nx a4 hlt fun h5 a5 o5 => ⟨⟨by omega, rfl⟩, st_bk a5 hlt fun h6 a6 o6 => ⟨⟨by omega, rfl⟩, st_rw (v := 2) a6 hlt fun h7 a7 o7 => ?_⟩⟩
      rw [wr64 (by omega) (by omega)]
      refine ⟨⟨i + 1, by omega, by omega, ((o4.trans o5).trans o6).trans o7, ?_⟩, by omega⟩
      rw [← funext (upd fun j => j), ← funext (upd fun _ => 2)] at a7
      exact a7
    · have hi : i = 66 := by simp at hlt; omega
      subst hi
      refine ⟨by trivial, ⟨_, _, _, _, a4, ⟨h2, fun r hr => ?_, fun r hr => List.nodup_nil, fun r hr x => ?_, fun x hx => ?_⟩, h1, fun r hr => rfl⟩, ?_⟩
      · exact ⟨⟨by simp; omega, by simp; omega⟩, trivial⟩
      · simp only [List.not_mem_nil, false_iff, not_and]; intro hx; rw [if_pos (by omega)]; omega
      · show (if x < 66 then 2 else 0) ≤ 2
        rw [if_pos hx]; omega
      · rw [← hB] at o4; exact o4.upd.new n3 (Nat.le_refl _)
end Go.Proofs.YtfanjfbenhocnaaGreatDoor.Lru
