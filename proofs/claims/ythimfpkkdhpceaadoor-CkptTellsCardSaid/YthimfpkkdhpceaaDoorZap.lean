/-
  Zeros behind a row. Over any program.
-/
import Derived.Test.YthimfpkkdhpceaaDoorSep
import Derived.Lib.AppendZerosOnto
namespace Go.Pl
/- ZEROS BEHIND A ROW: append of make. -/
theorem zeroCells_one (v : Value) (k : Nat) : Builtin.zeroCells #[v] k = Array.replicate k v := by
  apply Array.ext
  · simp [Builtin.zeroCells]
  · intro i h1 h2
    simp [Builtin.zeroCells, Nat.mod_one]
theorem run_append_room_zeros {P : Program} (w : World) (t tn ty e : TypeId) (i : TypeInfo) (zv : Value) (kq kn : IntKind) (ht : P.underlying t = some (.slice e)) (htn : P.underlying tn = some (.int kn)) (hi : P.info? e = some i) (hz : i.zero = some zv) (hzc : zv.cells = #[zv]) (hs : i.size = 1)
    (g sLen sCap : Nat) (cur : Array Value) (hg : w.heap[g]? = some (.cells cur e (0, 0))) (h1 : zv.oneCell' = true) (m : Nat) (h0 : 0 < m) (h48 : m * i.bytes ≤ 281474976710656) (hm : m ≤ 9223372036854775807)
    (hroom : sLen + m ≤ sCap) (hfit : sLen + m ≤ cur.size) :
    (Builtin.append_ #[t, tn] ty #[.slice (some ⟨g, 0, none⟩) sLen sCap, .int kq (m : Int)]).run P w =
      .ok (.slice (some ⟨g, 0, none⟩) (sLen + m) sCap) (w.setRow g (cur.toList.take sLen ++ List.replicate m zv ++ cur.toList.drop (sLen + m)).toArray) := by
  have hst := run_storeCells_at P g sLen e (List.replicate m zv) 0 cur w hg (by simpa using hfit) (fun u hu => by rw [List.eq_of_mem_replicate hu]; exact h1)
  simp only [Nat.add_zero, List.length_replicate] at hst
  have hw : IntKind.i64.wrap (m : Int) = m := by rw [IntKind.wrap_i64]; omega
  have h48i : ¬ (281474976710656 < (m : Int) * (i.bytes : Int)) := by
    rw [← Int.natCast_mul]
    omega
  have hneg : ¬ ((m : Int) < 0) := by omega
  have hns : ¬ m = 0 := by omega
  simp [Builtin.append_, run_underlying ht, run_underlying htn, sizeOf, typeInfo, zeroValue, hi, hz, asInt, asIntOf, hw, hneg, hns, h48i, hs, hzc, zeroCells_one, hroom, Addr.add_lit, hst]
theorem ap_zeros {P : Program} {t tn e : TypeId} {bytes : Nat} {kn kq : IntKind} (hB : apB P t e 1 bytes = true) (htn : P.underlying tn = some (.int kn)) {zv : Value} (hzi : ((P.info? e).bind fun i => i.zero) = some zv) (hzc : zv.cells = #[zv]) (h1 : zv.oneCell' = true)
    {h : Heap} {base n c : Nat} {a : Option Addr} {xs : List Value} (own : OwnH h base e 1 a n c xs) {m : Nat} (h63 : n + m ≤ maxLen) (hb : (n + m) * bytes ≤ 140737488355328) (hbase : base ≤ h.size) {F : Option Addr → Nat → Nat → Heap → Prop}
    (hF : ∀ a' c' h', OwnH h' base e 1 a' (n + m) c' (xs ++ List.replicate m zv) → UpdO (blkOf a) h h' → F a' (n + m) c' h') : apW P #[t, tn] #[.slice a n c, .int kq (m : Int)] F h := by
  intro w hw'
  obtain ⟨ht, i, z, hi, hz, hs, hby, hzs⟩ := apB_spec hB
  have hzz : z = zv := by rw [hi] at hzi; exact Option.some.inj (hz.symm.trans hzi)
  subst hzz; subst hby
  have ow := (own_world hw').2 own
  have hsmall : n + m ≤ 9223372036854775807 := by simp only [maxLen] at h63; omega
  have hmb : m * i.bytes ≤ 140737488355328 := Nat.le_trans (Nat.mul_le_mul_right _ (by omega)) hb
  have hlen : (xs ++ List.replicate m z).length = (n + m) * 1 := by rw [List.length_append, ow.1, List.length_replicate]; omega
  by_cases hm : m = 0
  · subst hm
    refine ⟨a, n, c, w, ?_, ?_, Rest.refl w⟩
    · have h0 : IntKind.i64.wrap (0 : Int) = 0 := by rw [IntKind.wrap_i64]; omega
      rcases own.row.2 with ⟨e1, e2, e3⟩ | ⟨g, cur, e1, _, _, hnc, _⟩
      · subst e1; subst e2; subst e3
        simp [Builtin.append_, run_underlying ht, run_underlying htn, sizeOf, typeInfo, hi, asInt, asIntOf, h0]
      · subst e1
        simp [Builtin.append_, run_underlying ht, run_underlying htn, sizeOf, typeInfo, hi, asInt, asIntOf, h0, hnc, storeCells]
    · rw [hw']
      exact hF a c h (by rw [List.replicate_zero, List.append_nil]; exact own) ⟨Nat.le_refl _, fun _ _ _ => rfl⟩
  have fresh : ∀ old, old < n + m → (Builtin.append_ #[t, tn] 0 #[.slice a n c, .int kq (m : Int)]).run P w = .ok (.slice (some ⟨w.heap.size, 0, none⟩) (n + m) (grownCap w (n + m) old e)) (w.drew.alloc (.cells (xs.toArray ++ Builtin.zeroCells z.cells m ++ Builtin.zeroCells z.cells (grownCap w (n + m) old e - (n + m))) e)) →
      ∃ a' n' c' w', (Builtin.append_ #[t, tn] 0 #[.slice a n c, .int kq (m : Int)]).run P w = .ok (.slice a' n' c') w' ∧ F a' n' c' w'.heap ∧ Rest w w' := by
    intro old ho hr
    refine ⟨_, _, _, _, hr, ?_, (Rest.drawn w).trans (Rest.alloc _ _)⟩
    have hge := grownCap_ge w (n + m) old e
    have hcm : grownCap w (n + m) old e ≤ maxLen := grownCap_le_maxLen w (n + m) old e h63
    have hpush : (w.drew.alloc (.cells (xs.toArray ++ Builtin.zeroCells z.cells m ++ Builtin.zeroCells z.cells (grownCap w (n + m) old e - (n + m))) e)).heap = h.push (.cells (xs.toArray ++ Builtin.zeroCells z.cells m ++ Builtin.zeroCells z.cells (grownCap w (n + m) old e - (n + m))) e) := by
      show w.heap.push _ = _
      rw [hw']
    rw [hpush, hw']
    have hN : New h (h.push (.cells (xs.toArray ++ Builtin.zeroCells z.cells m ++ Builtin.zeroCells z.cells (grownCap w (n + m) old e - (n + m))) e)) := New.push h _
    refine hF _ _ _ ⟨hlen, .inr ⟨h.size, _, _, rfl, hbase, Blk.push h _ _, hge, hcm, ?_, ?_⟩⟩ ⟨hN.size, fun k hk _ => hN.same k hk⟩
    · rw [hzc, zeroCells_one, zeroCells_one]
      simp only [Array.size_append, List.size_toArray, Array.size_replicate, ow.1]
      omega
    · rw [hzc, zeroCells_one, zeroCells_one]
      simp only [Array.toList_append, Array.toList_replicate]
      rw [← hlen]
      exact List.take_left
  rcases ow.2 with ⟨e1, rfl⟩ | ⟨g, cap, cur, e1, hbg, hg, hnc, hcm, hcs, htake⟩
  · injection e1 with e1 _ e3
    subst e1; subst e3
    have hx : xs = [] := List.eq_nil_of_length_eq_zero (by simpa using ow.1)
    subst hx
    have hr := Go.Lib.run_append_nil_zeros (P := P) w t tn 0 e i z kq kn ht htn hi hz m (by omega) (by omega) (by omega) (by omega)
    exact fresh 0 (by omega) (by simpa using hr)
  · injection e1 with e1 _ e3
    subst e1; subst e3
    by_cases hroom : n + m ≤ c
    · have hr := run_append_room_zeros (P := P) w t tn 0 e i z kq kn ht htn hi hz hzc hs g n c cur hg h1 m (by omega) (by omega) (by omega) hroom (by omega)
      have hgr : w.grownBy (w.setRow g (cur.toList.take n ++ List.replicate m z ++ cur.toList.drop (n + m)).toArray) (Value.slice (some ⟨g, 0, none⟩) n c).ownBlock :=
        ⟨rfl, rfl, rfl, by simp, fun k _ hk => setRow_other w g k _ (fun e => hk (by simp [Value.ownBlock, e]))⟩
      refine ⟨_, _, _, _, hr, hF _ _ _ ⟨hlen, .inr ⟨g, c, _, rfl, hbg, setRow_heap w g cur _ e _ hg, hroom, hcm, ?_, ?_⟩⟩ ⟨by rw [← hw']; exact hgr.size, fun k hk hne => by subst hw'; exact hgr.block k hk hne⟩, rest_grown ow hgr⟩
      · simp only [List.size_toArray, List.length_append, List.length_take, List.length_drop, Array.length_toList, List.length_replicate]
        omega
      · rw [Nat.mul_one] at htake
        rw [htake, ← hlen]
        exact List.take_left
    · have holds : ∀ (j : Nat) (u : Value), xs[j]? = some u → w.cell? ((⟨g, 0, none⟩ : Addr).add j) = some u := ow.cells (g := g) rfl
      have hold := run_firstCells_some (P := P) w.drew i.size n ⟨g, 0, none⟩ n c xs (by rw [hs]; exact ow.1) holds
      have hr := Go.Lib.run_append_grow_zeros (P := P) w t tn 0 e i z kq kn ht htn hi hz (some ⟨g, 0, none⟩) n c xs hold m (by omega) (by omega) (by omega) (by omega) (by omega) (growslice_fits (by omega) hb)
      exact fresh c (by omega) hr
end Go.Pl
