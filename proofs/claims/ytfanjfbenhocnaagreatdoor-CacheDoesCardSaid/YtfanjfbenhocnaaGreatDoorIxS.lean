/-
  The Keys of an index: sorted, each once, all.
-/
import Derived.Test.YtfanjfbenhocnaaGreatDoorIxW
import Derived.Test.YtfanjfbenhocnaaGreatDoorSrtU
namespace Go.Proofs.YtfanjfbenhocnaaGreatDoor.IxS
open Go.Pl Go.Pl.Ix Go.Proofs.YtfanjfbenhocnaaGreatDoor.W Go.Proofs.YtfanjfbenhocnaaGreatDoor.Ix Go.Proofs.YtfanjfbenhocnaaGreatDoor.SrtU
open Go.Proofs.YtfanjfbenhocnaaGreatDoor.So (TE)
/- PLAIN. -/
def ks (p : Nat → C) (n : Nat) : List Int := ((List.range n).filter fun j => (p j).t).map fun j => (p j).k
theorem ks_succ (p : Nat → C) (n : Nat) : ks p (n + 1) = ks p n ++ if (p n).t = true then [(p n).k] else [] := by
  unfold ks
  rw [List.range_succ, List.filter_append, List.map_append]
  congr 1
  by_cases h : (p n).t = true
  · rw [if_pos h]; simp [h]
  · rw [if_neg h]; simp [h]
theorem ks_len (p : Nat → C) : ∀ n, (ks p n).length = cnt p n
  | 0 => rfl
  | n + 1 => by
    rw [ks_succ, List.length_append, ks_len p n]
    show _ = cnt p n + _
    by_cases h : (p n).t = true
    · rw [if_pos h, if_pos h]; rfl
    · rw [if_neg h, if_neg h]; rfl
theorem ks_le (p : Nat → C) (n : Nat) : (ks p n).length ≤ n := by rw [ks_len]; exact cnt_le p n
theorem ks_mem {p : Nat → C} {n : Nat} {k : Int} : k ∈ ks p n ↔ ∃ i, i < n ∧ (p i).t = true ∧ (p i).k = k := by
  unfold ks
  rw [List.mem_map]
  constructor
  · rintro ⟨i, hi, e⟩
    have := List.mem_filter.1 hi
    exact ⟨i, List.mem_range.1 this.1, this.2, e⟩
  · rintro ⟨i, hi, ht, e⟩
    exact ⟨i, List.mem_filter.2 ⟨List.mem_range.2 hi, ht⟩, e⟩
theorem ks_nodup {p : Nat → C} (h : Inv p) : (ks p 128).Nodup := by
  unfold ks
  rw [List.nodup_iff_pairwise_ne, List.pairwise_map]
  refine List.Pairwise.imp_of_mem (R := fun a b => a < b) (fun {a b} ha hb hab => ?_) ((List.pairwise_lt_range (n := 128)).sublist List.filter_sublist)
  have h1 := List.mem_filter.1 ha
  have h2 := List.mem_filter.1 hb
  intro e
  have := h.uniq a b (List.mem_range.1 h1.1) (List.mem_range.1 h2.1) h1.2 h2.2 e
  omega
theorem ks_rep {p : Nat → C} {M : Int → Option Int} (hi : Inv p) (hr : Rep p M) (k : Int) : k ∈ ks p 128 ↔ (M k).isSome = true := by
  rw [ks_mem]
  constructor
  · rintro ⟨i, h1, h2, rfl⟩
    rw [hr.look h1 h2 hi]; rfl
  · intro h
    cases hM : M k with
    | none => rw [hM] at h; cases h
    | some v =>
      obtain ⟨i, h1, h2, h3, _⟩ := hr.yes k v hM
      exact ⟨i, h1, h2, h3⟩
/-- What Keys answers for the map M, with n keys. -/
structure Keys (M : Int → Option Int) (n : Nat) (L : List Int) : Prop where
  srt : L.Pairwise fun a b => a ≤ b
  nd : L.Nodup
  mem : ∀ k, k ∈ L ↔ (M k).isSome = true
  len : L.length = n
theorem Keys.one {M : Int → Option Int} {n m : Nat} {L K : List Int} (h1 : Keys M n L) (h2 : Keys M m K) : L = K :=
  List.Perm.eq_of_pairwise (le := fun a b => a ≤ b) (fun a b _ _ g1 g2 => by omega) h1.srt h2.srt ((List.perm_ext_iff_of_nodup h1.nd h2.nd).2 fun a => (h1.mem a).trans (h2.mem a).symm)
theorem apU : apB Tryz.prog 117 TE 1 4 = true := by kernel_rfl
set_option maxRecDepth 100000 in
theorem keysN_ok (b : Nat) (h : Heap) (M : Int → Option Int) (n : Nat) (room : Int) (hx : IxOk h b M n room) :
    CallsH Tryz.prog 58 [.pointer (some ⟨b, 0, none⟩)] h fun v h' => ∃ (a : Option Addr) (c : Nat) (L : List Int), v = .slice a L.length c ∧ Ar .u32 h' a L ∧ Keys M n L ∧ New h h' ∧ (L ≠ [] → ∀ g, blkOf a = some g → h.size ≤ g) := by
  refine fun_ok hm' Tryz.func58 (by kernel_rfl) (F58_eq _ _ h) ?_
  obtain ⟨p, hat, hinv, hrep, hc, hle, hr1, hr2⟩ := hx
  obtain ⟨arr, T, hb, hs, hp, hn, hr⟩ := hat
  unfold F58
  rw [add_mk]
  refine ldRaw_blk hb (by omega) ?_
  refine ⟨fun (s : (Option Addr × Nat × Nat) × Int) h' => ∃ i : Nat, s.2 = i ∧ i ≤ 128 ∧ s.1.2.1 = (ks p i).length ∧ OwnH h' h.size TE 1 s.1.1 (ks p i).length s.1.2.2 ((ks p i).map (Value.int .u32)) ∧ New h h', fun (s : (Option Addr × Nat × Nat) × Int) _ => ((128 : Int) - s.2).toNat, ⟨0, rfl, Nat.zero_le _, rfl, OwnH.nil h h.size TE 1, New.refl h⟩, ?_⟩
  rintro ⟨⟨oa, on, oc⟩, s⟩ j h1 ⟨i, hsi, hi, hon, ow, n1⟩
  have hsi : s = (i : Int) := hsi
  have hon : on = (ks p i).length := hon
  have ow : OwnH h1 h.size TE 1 oa (ks p i).length oc ((ks p i).map (Value.int .u32)) := ow
  subst hsi; subst hon
  have hlen := ks_le p i
  refine br_of (fun hlt => ?_) (fun hlt => ?_)
  · have hlt : (i : Int) < 128 := of_decide_eq_true hlt
    have hiL : i < 128 := by omega
    obtain ⟨c1, c2, c3⟩ := hp i hiL
    have ez : IntKind.wrap .i64 ((i : Int) + 1) = ((i + 1 : Nat) : Int) := (by first | (rw [wr64 (by omega) (by omega)]; omega) | (simp only [IntKind.wrap_i64]; omega))
    have hks := ks_succ p i
    refine ⟨⟨by show (0 : Int) ≤ (i : Int) ∧ (i : Int) < (128 : Nat); omega, rfl⟩, ((p i).t, (p i).k, (p i).s), ?_, new_stL (by rw [zeroPl]; rfl) fun h2 b2 n2 s2 => ?_⟩
    · show _ = [Value.bool (p i).t, .int .u32 (p i).k, .int .i64 (p i).s]
      apply List.ext_getElem?
      intro m
      rw [List.getElem?_take]
      have e : ∀ m, m < 3 → ((((arr.toList.drop (0 + 0)).take 384).toArray.toList).drop (Int.toNat (i : Int) * 3))[m]? = arr[3 * i + m]? := fun m hm => by
        rw [Int.toNat_natCast, List.getElem?_drop]
        simp only [Nat.add_zero, List.drop_zero]
        rw [List.getElem?_take, if_pos (by omega), Array.getElem?_toList, show i * 3 + m = 3 * i + m by omega]
      rcases m with _ | _ | _ | m
      · rw [if_pos (by omega), e 0 (by omega), Nat.add_zero, c1]; rfl
      · rw [if_pos (by omega), e 1 (by omega), c2]; rfl
      · rw [if_pos (by omega), e 2 (by omega), c3]; rfl
      · rw [if_neg (by omega)]; rfl
    have b2 : Blk h2 h1.size #[.bool (p i).t, .int .u32 (p i).k, .int .i64 (p i).s] 82 := b2
    have hs1 := n1.size
    have ow2 : OwnH h2 h.size TE 1 oa (ks p i).length oc ((ks p i).map (Value.int .u32)) := ow.grow n2
    refine ld_of (c := .bool) (p i).t (by rw [add_mk, cellH_blk b2]; rfl) (br_of (fun ht => ?_) (fun ht => ?_))
    · have ht : (p i).t = true := ht
      rw [if_pos ht] at hks
      refine ld_of (c := .int .u32) (p i).k (by rw [add_mk, cellH_blk b2]; rfl) ?_
      refine pushI apU (k := .u32) ow2 (by omega) (by omega) (by have := n2.size; omega) fun a3 c3 h3 o3 w3 z3 => ?_
      rw [ez]
      have e1 : (ks p (i + 1)).length = (ks p i).length + 1 := by rw [hks, List.length_append]; rfl
      refine ⟨⟨i + 1, rfl, hiL, e1.symm, ?_, w3 h (n1.trans n2) (Nat.le_refl _)⟩, (by first | omega | (dsimp only; omega) | (simp only []; omega))⟩
      rw [hks]; exact o3
    · have ht : (p i).t = false := ht
      rw [if_neg (by rw [ht]; simp), List.append_nil] at hks
      rw [ez]
      exact ⟨⟨i + 1, rfl, hiL, by rw [hks], by rw [hks]; exact ow2, n1.trans n2⟩, (by first | omega | (dsimp only; omega) | (simp only []; omega))⟩
  · have hlt : ¬ (i : Int) < 128 := of_decide_eq_false hlt
    have : i = 128 := by omega
    subst this
    have hcl : (ks p 128).length = n := by rw [ks_len, hc]
    have hnd := ks_nodup hinv
    have hmem := ks_rep hinv hrep
    by_cases h0 : ks p 128 = []
    · rw [h0] at ow hmem hcl hnd ⊢
      refine call_of (sort0_ok h1 oa oc) ?_
      rintro v h' ⟨rfl, hh⟩; subst h'
      exact ⟨(), rfl, oa, oc, [], rfl, Ar.nil _ _ _, ⟨List.Pairwise.nil, hnd, hmem, hcl⟩, n1, fun h => (h rfl).elim⟩
    · obtain ⟨g, eg, hg⟩ : ∃ g, oa = some ⟨g, 0, none⟩ ∧ h.size ≤ g := by
        rcases ow.row.2 with ⟨_, e0, _⟩ | ⟨g, cur, e, hg, _⟩
        · exact (h0 (List.eq_nil_of_length_eq_zero e0)).elim
        · exact ⟨g, e, hg⟩
      subst eg
      refine call_of (sort_ok (by omega) ow) ?_
      rintro v h2 ⟨rfl, ys, hy1, hy2, o2, u2⟩
      have hyl := hy1.length_eq
      rw [← hyl] at o2 ⊢
      exact ⟨(), rfl, some ⟨g, 0, none⟩, oc, ys, rfl, Ar.own o2, ⟨hy2, hy1.nodup_iff.2 hnd, fun k => (hy1.mem_iff).trans (hmem k), by rw [hyl]; exact hcl⟩, u2.new n1 hg, fun _ g' e => by injection e with e; change g = g' at e; omega⟩
theorem keys_ok (b : Nat) (h : Heap) (M : Int → Option Int) (n : Nat) (room : Int) (hx : IxOk h b M n room) :
    CallsH Tryz.prog 58 [.pointer (some ⟨b, 0, none⟩)] h fun v h' => ∃ (a : Option Addr) (c : Nat) (L : List Int), v = .slice a L.length c ∧ Ar .u32 h' a L ∧ Keys M n L ∧ New h h' :=
  (keysN_ok b h M n room hx).mono fun _ _ ⟨a, c, L, h1, h2, h3, h4, _⟩ => ⟨a, c, L, h1, h2, h3, h4⟩
end Go.Proofs.YtfanjfbenhocnaaGreatDoor.IxS
