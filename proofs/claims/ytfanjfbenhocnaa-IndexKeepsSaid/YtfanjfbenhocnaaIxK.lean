/-
  IndexKeeps: what awake and the law itself come to.
-/
import Derived.Test.YtfanjfbenhocnaaIxW
namespace Go.Proofs.Ytfanjfbenhocnaa.Ix
open Go.Pl Go.Pl.Ix Go.Proofs.Ytfanjfbenhocnaa.W
theorem awake_ok (h : Heap) : CallsH Try.prog 10 [] h fun v h' => v = .bool true ∧ New h h' := by
  refine fun_ok hm' Try.func10 (by kernel_rfl) (F10_eq _ h) ?_
  unfold F10
  refine call_of (new_ok 1 h (by decide) (by decide)) ?_
  rintro v h1 ⟨rfl, hx1, hn1⟩
  refine ⟨(some ⟨h.size, 0, none⟩, .nilIface), rfl, cut_of (br_f rfl ⟨.inl rfl, br_f rfl fun _ => ?_⟩)⟩
  refine call_of (put_ok _ 7 0 h1 _ _ _ hx1) ?_
  rintro v h2 ⟨ho2, ⟨_, rfl, hx2⟩ | ⟨_, hh, _⟩⟩
  rotate_left
  · exact absurd hh (by decide)
  refine ⟨true, rfl, call_of (put_ok _ 8 1 h2 _ _ _ hx2) ?_⟩
  rintro v h3 ⟨_, ⟨hh, _⟩ | ⟨_, _, rfl, hh⟩⟩
  · rcases hh with hh | hh <;> exact absurd hh (by decide)
  subst h3
  refine ⟨false, rfl, call_of (put_ok _ 7 2 h2 _ _ _ hx2) ?_⟩
  rintro v h4 ⟨ho4, ⟨_, rfl, hx4⟩ | ⟨hh, _⟩⟩
  rotate_left
  · exact absurd hh (by decide)
  refine ⟨true, rfl, call_of (get_ok _ 7 h4 _ _ _ hx4) ?_⟩
  rintro v h5 ⟨rfl, hn5⟩
  refine ⟨((2 : Int), true), rfl, call_of (get_ok _ 8 h5 _ _ _ (hx4.new hn5)) ?_⟩
  rintro v h6 ⟨rfl, hn6⟩
  refine ⟨((0 : Int), false), rfl, br_t rfl (br_t rfl (br_t rfl (br_t rfl (br_t rfl (br_t rfl ?_)))))⟩
  have hx6 := (hx4.new hn5).new hn6
  refine call_of (len_ok _ h6 _ _ _ hx6) ?_
  rintro v h7 ⟨rfl, hh⟩
  subst h7
  refine ⟨(1 : Int), rfl, br_t rfl (call_of (drop_ok _ 7 h6 _ _ _ hx6) ?_)⟩
  rintro v h8 ⟨hu8, rfl, hx8, _⟩
  refine ⟨true, rfl, br_t rfl (call_of (drop_ok _ 7 h8 _ _ _ hx8) ?_)⟩
  rintro v h9 ⟨hu9, rfl, hx9, _⟩
  refine ⟨false, rfl, br_t rfl (call_of (len_ok _ h9 _ _ _ hx9) ?_)⟩
  rintro v h10 ⟨rfl, hh⟩
  subst h10
  refine ⟨(0 : Int), rfl, rfl, ?_⟩
  have n4 : New h h4 := ho4.upd.new (ho2.upd.new hn1 (Nat.le_refl _)) (Nat.le_refl _)
  exact hu9.new (hu8.new ((n4.trans hn5).trans hn6) (Nat.le_refl _)) (Nat.le_refl _)
/-- The acts that came in: each three cells. -/
def ActsAt (h : Heap) (l : Option Addr) (n : Nat) : Prop :=
  ∀ i, i < n → ∃ x, l = some x ∧ x.block < h.size ∧ ∃ d k s : Int, cellH h (x.add (i * 3)) = some (.int .i64 d) ∧ cellH h ((x.add (i * 3)).add 1) = some (.int .u32 k) ∧ cellH h ((x.add (i * 3)).add 2) = some (.int .i64 s)
theorem add_block (a : Addr) (n : Nat) : (a.add n).block = a.block := by unfold Addr.add; split <;> rfl
theorem cellH_new {h h' : Heap} {a : Addr} (hn : New h h') (ha : a.block < h.size) : cellH h' a = cellH h a :=
  World.cell?_of_block (w := hw h) (w' := hw h') (a := a) (hn.same a.block ha)
theorem add_zero' (a : Addr) : a.add 0 = a := rfl
theorem zero31 : zeroC Try.prog 31 = #[.int .i64 0, .int .u32 0, .int .i64 0] := by kernel_rfl
set_option maxHeartbeats 1000000 in
theorem keeps_ok (room key : Int) (l : Option Addr) (len cap : Nat) (h : Heap) (hl : ActsAt h l len) :
    CallsH Try.prog 3 [.int .i64 room, .slice l len cap, .int .u32 key] h fun v h' => v = .bool true ∧ New h h' := by
  refine fun_ok hm' Try.func3 (by kernel_rfl) (F3_eq _ _ _ _ _ _ h) ?_
  unfold F3
  refine call_of (awake_ok h) ?_
  rintro v h1 ⟨rfl, hn1⟩
  refine ⟨true, rfl, br_f rfl ?_⟩
  by_cases hr : 1 ≤ room ∧ room ≤ 64
  rotate_left
  · refine call_of (new_no room h1 (by omega)) ?_
    rintro v h2 ⟨rfl, hh⟩
    subst h2
    exact ⟨(none, .iface 82 (.int .i64 1)), rfl, cut_of (br_t rfl ⟨rfl, hn1⟩)⟩
  refine call_of (new_ok room h1 hr.1 hr.2) ?_
  rintro v h2 ⟨rfl, hx2, hn2⟩
  refine ⟨(some ⟨h1.size, 0, none⟩, .nilIface), rfl, cut_of (br_f rfl (br_of (fun _ => ⟨rfl, hn1.trans hn2⟩) fun hlen _ => ?_))⟩
  have hlen : len ≤ 300 := by simp at hlen; omega
  have hn02 : New h h2 := hn1.trans hn2
  have hbl : h.size ≤ h1.size := hn1.size
  generalize hb : h1.size = b at *
  refine ⟨fun (s : Int × Bool × Int) h' => ∃ (M : Int → Option Int) (n i : Nat), s = ((M key).getD 0, (M key).isSome, (i : Int)) ∧ i ≤ len ∧ IxOk h' b M n room ∧ New h h',
    fun (s : Int × Bool × Int) _ => (len - s.2.2).toNat, ⟨fun _ => none, 0, 0, rfl, Nat.zero_le _, hx2, hn02⟩, ?_⟩
  rintro s j h3 ⟨M, n, i, rfl, hi, hx3, hn3⟩
  refine br_of (fun hlt => ?_) (fun _ => ⟨rfl, hn3⟩)
  have hlt : i < len := by simpa using hlt
  obtain ⟨x, rfl, hxb, d, k, s, e1, e2, e3⟩ := hl i hlt
  have hc : ∀ m, cellH h3 ((x.add (i * 3)).add m) = cellH h ((x.add (i * 3)).add m) := fun m => cellH_new hn3 (by rw [add_block, add_block]; exact hxb)
  refine ⟨⟨by simp; omega, rfl⟩, ?_⟩
  simp only [Int.toNat_natCast]
  refine ⟨((d, k, s) : Int × Int × Int), ⟨by rw [hc]; exact e1, by rw [hc]; exact e2, by rw [hc]; exact e3, trivial⟩, ?_⟩
  rw [zero31]
  refine new_of fun h4 hb4 hn4 _ => stL_blk hb4 (by simp) fun h5 hb5 ho5 => ?_
  have hn5 : New h3 h5 := ho5.upd.new hn4 (Nat.le_refl _)
  have hx5 := hx3.new hn5
  have hbx := hx3.lt
  generalize hA : h3.size = A at *
  have hcell : ∀ h', Blk h' A (setsA #[.int .i64 0, .int .u32 0, .int .i64 0] 0 [.int .i64 d, .int .u32 k, .int .i64 s]) 31 →
      cellH h' ((⟨A, 0, none⟩ : Addr).add 0) = some (.int .i64 d) ∧ cellH h' ((⟨A, 0, none⟩ : Addr).add 1) = some (.int .u32 k) ∧ cellH h' ((⟨A, 0, none⟩ : Addr).add 2) = some (.int .i64 s) := fun h' hb' => by
    refine ⟨?_, ?_, ?_⟩ <;> (rw [add_mk, cellH_blk hb', setsA_get]; rfl)
  have hle5 := hx5.le
  refine call_of (len_ok b h5 M n room hx5) ?_
  rintro v h6 ⟨rfl, hh⟩
  subst h6
  refine ⟨(n : Int), rfl, ?_⟩
  -- what stands behind the switch
  have tail : ∀ (M' : Int → Option Int) (n' : Nat) (h6 : Heap) (a : Int) (t : Bool), a = (M' key).getD 0 → t = (M' key).isSome → IxOk h6 b M' n' room → New h h6 →
      callT Try.prog 15 [.pointer (some ⟨b, 0, none⟩), .int .u32 key] [.sc (.int .i64), .sc .bool] (fun (r38 : Int × Bool) h39 =>
        br (r38.1 != a) (Value.bool false = Value.bool true ∧ New h h39) (br (!(r38.2 == t)) (Value.bool false = Value.bool true ∧ New h h39)
          (callT Try.prog 12 [.pointer (some ⟨b, 0, none⟩)] [.sc (.int .i64)] (fun (r40 : Int) h41 =>
            br (decide (r40 > room)) (Value.bool false = Value.bool true ∧ New h h41)
              ((∃ (M : Int → Option Int) (n i' : Nat), (a, t, IntKind.wrap .i64 ((i : Int) + (1 : Int))) = ((M key).getD 0, (M key).isSome, (i' : Int)) ∧ i' ≤ len ∧ IxOk h41 b M n room ∧ New h h41) ∧
                ((len : Int) - IntKind.wrap .i64 ((i : Int) + (1 : Int))).toNat < ((len : Int) - (i : Int)).toNat)) h39))) h6 := by
    rintro M' n' h6 a t rfl rfl hx6 hn6
    refine call_of (get_ok b key h6 M' n' room hx6) ?_
    rintro v h7 ⟨rfl, hn7⟩
    have hx7 := hx6.new hn7
    refine ⟨((M' key).getD 0, (M' key).isSome), rfl, br_f (by simp) (br_f (by simp) ?_)⟩
    refine call_of (len_ok b h7 M' n' room hx7) ?_
    rintro v h8 ⟨rfl, hh⟩
    subst h8
    have := hx7.le
    refine ⟨(n' : Int), rfl, br_f (by simp; omega) ?_⟩
    rw [wr64 (by omega) (by omega)]
    exact ⟨⟨M', n', i + 1, rfl, by omega, hx7, hn6.trans hn7⟩, by omega⟩
  have hn05 : New h h5 := hn3.trans hn5
  refine cut_of (ld_of (c := .int .i64) d (hcell h5 hb5).1 (br_of (fun h0 => ?_) (fun h0 => ?_)))
  · -- Put
    refine ld_of (c := .int .u32) k (hcell h5 hb5).2.1 (ld_of (c := .int .i64) s (hcell h5 hb5).2.2 ?_)
    refine call_of (put_ok b k s h5 M n room hx5) ?_
    rintro v h6 ⟨ho6, ⟨hcan, rfl, hx6⟩ | ⟨hM, hfull, rfl, hh⟩⟩
    · have hb6 : Blk h6 A _ _ := hb5.only ho6 (by omega)
      have hn6 : New h h6 := ho6.upd.new hn05 hbl
      refine ⟨true, rfl, cut_of (br_t rfl (ld_of (c := .int .u32) k (hcell h6 hb6).2.1 (br_of (fun hk => ?_) (fun hk => ?_))))⟩
      · have hk : k = key := by simpa using hk
        subst hk
        exact ld_of (c := .int .i64) s (hcell h6 hb6).2.2 fun _ => br_f rfl fun _ => tail _ _ h6 _ _ (by simp [setM]) (by simp [setM]) hx6 hn6
      · have hk : k ≠ key := by simpa using hk
        exact fun _ => br_f rfl fun _ => tail _ _ h6 _ _ (by simp [setM, Ne.symm hk]) (by simp [setM, Ne.symm hk]) hx6 hn6
    · subst h6
      exact ⟨false, rfl, cut_of (br_f rfl fun _ => br_t rfl (br_f (by simp; omega) fun _ => tail _ _ h5 _ _ rfl rfl hx5 hn05))⟩
  · refine br_of (fun h1' => ?_) (fun _ _ => tail _ _ h5 _ _ rfl rfl hx5 hn05)
    refine ld_of (c := .int .u32) k (hcell h5 hb5).2.1 ?_
    refine call_of (drop_ok b k h5 M n room hx5) ?_
    rintro v h6 ⟨hu6, rfl, hx6, _⟩
    have hb6 : Blk h6 A _ _ := hb5.upd hu6 (by omega)
    have hn6 : New h h6 := hu6.new hn05 hbl
    refine ⟨(M k).isSome, rfl, ld_of (c := .int .u32) k (hcell h6 hb6).2.1 (br_of (fun hk => ?_) (fun hk => ?_))⟩
    · have hk : k = key := by simpa using hk
      subst hk
      exact br_f (by simp) fun _ => tail _ _ h6 _ _ (by simp [setM]) (by simp [setM]) hx6 hn6
    · have hk : k ≠ key := by simpa using hk
      exact fun _ => tail _ _ h6 _ _ (by simp [setM, Ne.symm hk]) (by simp [setM, Ne.symm hk]) hx6 hn6
end Go.Proofs.Ytfanjfbenhocnaa.Ix
