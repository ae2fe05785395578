/-
  What the laws of layer 7 (zns) come to: the call that is made first, and ZnsDoes.
-/
import Derived.Test.YtgohecjnjadnpaaDoorL7A
namespace Go.Proofs.YtgohecjnjadnpaaDoor.L7
open Go.Pl Go.Proofs.YtgohecjnjadnpaaDoor.W Go.Proofs.YtgohecjnjadnpaaDoor.Byts Go.Proofs.YtgohecjnjadnpaaDoor.As Go.Proofs.YtgohecjnjadnpaaDoor.Zns Go.Proofs.YtgohecjnjadnpaaDoor.L7A
def z33 : List Int := List.replicate 33 0
theorem z33_len : z33.length = 33 := List.length_replicate
theorem z33_arr : (z33.map (Value.int .u8)).toArray = Array.replicate 33 (Value.int .u8 0) := by simp only [z33, List.map_replicate, List.toArray_replicate]
theorem z33_byt : Byt z33 := fun x hx => by rw [List.eq_of_mem_replicate hx]; omega
def D0 : Dev := Dev.empty 2 3
def D1 : Dev := ⟨[Zn.bare, ⟨[z33], 0, false⟩], 3, -1, 1, false⟩
def D2 : Dev := ⟨[Zn.bare, ⟨[z33, z33], 0, false⟩], 3, -1, 2, false⟩
def D3 : Dev := ⟨[Zn.bare, ⟨[z33, z33], 2, false⟩], 3, -1, 3, false⟩
def D4 : Dev := ⟨[Zn.bare, ⟨[z33, z33, z33], 2, false⟩], 3, -1, 4, false⟩
def D5 : Dev := ⟨[Zn.bare, ⟨[z33, z33, []], 3, false⟩], 3, -1, 4, false⟩
theorem a1 : D0.append 1 z33 = (D1, 0, 0) := by kernel_rfl
theorem a2 : D1.append 1 z33 = (D2, 1, 0) := by kernel_rfl
theorem a3 : D2.flush = (D3, 0) := by kernel_rfl
theorem a4 : D3.append 1 z33 = (D4, 2, 0) := by kernel_rfl
theorem a5 : D4.append 1 z33 = (D4, 0, 5) := by kernel_rfl
theorem a6 : D4.read 1 2 = (z33, 0) := by kernel_rfl
theorem a7 : D4.state 1 = 2 := by kernel_rfl
theorem a8 : D4.crash [0, 0] [true, true] = D5 := by kernel_rfl
theorem a9 : D5.read 1 2 = ([], 6) := by kernel_rfl
theorem a10 : D5.read 0 0 = ([], 8) := by kernel_rfl
theorem a11 : D5.point 1 = 3 := by kernel_rfl
theorem a12 : D5.sure 1 = 3 := by kernel_rfl
theorem a13 : (D5.reset 1).2 = 0 := by kernel_rfl
theorem a14 : (D5.reset 1).1.state 1 = 0 := by kernel_rfl
theorem size8 : sizeN Tryd.prog 5 = 1 := by kernel_rfl
theorem zero8 : zeroC Tryd.prog 5 = #[.int .u8 0] := by kernel_rfl
theorem bytes8 : bytesN Tryd.prog 5 = 1 := by kernel_rfl
theorem own1 : ∀ p : Nat × Nat, p.1 = 0 → p.1 ≠ 1 := fun p h e => by omega
theorem awake_ok (h : Heap) (hg : Laid h) : CallsH Tryd.prog 23 [] h fun v h' => v = .bool true ∧ New h h' := by
  refine fun_ok hm' Tryd.func23 (by kernel_rfl) (F23_eq _ h) ?_
  unfold F23
  have o0 : DevOk D0 := DevOk.empty (by omega) (by omega)
  refine call_of (ZnsP.new_ok 1 (by decide) (fun _ => (0, 0)) 2 3 h (by omega) (by omega)) ?_
  rintro v h1 ⟨b, rfl, n1, _, t1, ht1, r1⟩
  have r1 : PRep 1 t1 h1 b D0 := r1
  have bs1 : Bs h t1 h1 := (Bs.start hg).tags n1 ht1
  refine ⟨(some ⟨b, 0, none⟩, errV 0), rfl, cut_q (ts := []) (fun _ h' => h' = h1) ?_ ?_⟩
  rotate_left
  · intro K hK
    exact br_f rfl ⟨errV_if 0, br_f rfl (hK () _ rfl)⟩
  rintro _ h' hh _; subst h'
  refine mk_of (n := 33) size8 zero8 (by rw [bytes8]; omega) (by omega) fun h2 b2 n2 s2 => ?_
  rw [← z33_arr] at b2
  have r2 : PRep 1 (lay t1 h1.size (0, 0)) h2 b D0 := ZnsP.PRep.lay r1 n2
  have bs2 : Bs h (lay t1 h1.size (0, 0)) h2 := bs1.fr (S := fun _ => True) (Fr.lay n2 _) fun _ _ => trivial
  have im2 : Im .u8 (lay t1 h1.size (0, 0)) h2 (some ⟨h1.size, 0, none⟩) z33 := ⟨Ar.blk b2, fun _ g hg => by injection hg with hg; change h1.size = g at hg; subst hg; rw [lay_ge (Nat.le_refl _)]⟩
  generalize lay t1 h1.size (0, 0) = t2 at r2 bs2 im2
  have step : ∀ {D : Dev} (_ : DevOk D) (h : Heap) (t : Tags), PRep 1 t h b D → Im .u8 t h (some ⟨h1.size, 0, none⟩) z33 → CallsH Tryd.prog 63 [ptr b, .int .i64 1, .slice (some ⟨h1.size, 0, none⟩) 33 33] h fun v h' => v = .tuple #[.int .i64 ((D.append 1 z33).2.1), errV (D.append 1 z33).2.2] ∧ ZnsP.Acted 1 t h b (D.append 1 z33).1 h' := by
    intro D o h t r im
    have := ZnsP.append_ok o 1 (some ⟨h1.size, 0, none⟩) 33 z33 h r (by rw [z33_len]; omega) im
    rw [z33_len] at this; exact this
  refine call_of (step o0 h2 t2 r2 im2) ?_
  rintro v h3 ⟨rfl, t3, r3, f3⟩
  rw [a1] at r3 ⊢
  have o1 : DevOk D1 := by have := o0.append 1 z33_byt; rw [a1] at this; exact this
  have bs3 := bs2.own (by decide) f3
  have im3 := im2.fr f3 own1
  refine ⟨((0 : Int), errV 0), rfl, call_of (step o1 h3 t3 r3 im3) ?_⟩
  rintro v h4 ⟨rfl, t4, r4, f4⟩
  rw [a2] at r4 ⊢
  have o2 : DevOk D2 := by have := o1.append 1 z33_byt; rw [a2] at this; exact this
  have bs4 := bs3.own (by decide) f4
  have im4 := im3.fr f4 own1
  refine ⟨((1 : Int), errV 0), rfl, call_of (ZnsP.flush_ok o2 h4 r4) ?_⟩
  rintro v h5 ⟨rfl, t5, r5, f5⟩
  rw [a3] at r5 ⊢
  have o3 : DevOk D3 := by have := o2.flush; rw [a3] at this; exact this
  have bs5 := bs4.own (by decide) f5
  have im5 := im4.fr f5 own1
  refine ⟨errV 0, rfl, call_of (step o3 h5 t5 r5 im5) ?_⟩
  rintro v h6 ⟨rfl, t6, r6, f6⟩
  rw [a4] at r6 ⊢
  have o4 : DevOk D4 := by have := o3.append 1 z33_byt; rw [a4] at this; exact this
  have bs6 := bs5.own (by decide) f6
  have im6 := im5.fr f6 own1
  refine ⟨((2 : Int), errV 0), rfl, call_of (step o4 h6 t6 r6 im6) ?_⟩
  rintro v h7 ⟨rfl, t7, r7, f7⟩
  rw [a5] at r7 ⊢
  have bs7 := bs6.own (by decide) f7
  refine ⟨((0 : Int), errV 5), rfl, call_of (ZnsP.read_ok o4 1 2 h7 r7) ?_⟩
  rintro v h8 ⟨a8', c8, rfl, g8⟩
  rw [a6] at g8 ⊢
  have r8 := r7.new g8.new
  have bs8 := bs7.newer g8.new
  refine ⟨((a8', z33.length, c8), errV 0), rfl, call_of (ZnsP.state_ok 1 h8 r8) ?_⟩
  rintro v h9 ⟨rfl, n9⟩
  rw [a7]
  have r9 := r8.new n9
  have bs9 := bs8.newer n9
  refine ⟨(2 : Int), rfl, new_of fun h10 b10 n10 s10 => new_of fun h11 b11 n11 s11 => ?_⟩
  have n911 := n10.trans n11
  have r11 : PRep 1 (lay t7 h9.size (0, 0)) h11 b D4 := ZnsP.PRep.lay r9 n911
  have bs11 : Bs h (lay t7 h9.size (0, 0)) h11 := bs9.fr (S := fun _ => True) (Fr.lay n911 _) fun _ _ => trivial
  have ins : ZnsP.Ins (lay t7 h9.size (0, 0)) h11 (some ⟨h9.size, 0, none⟩) [0, 0] (some ⟨h10.size, 0, none⟩) [true, true] := by
    have b10' := b10.new n11
    refine ⟨Ar.blk (xs := [0, 0]) b10', fun i x hx => ?_, fun _ g hg => ?_, fun _ g hg => ?_⟩
    · refine ⟨h10.size, 0, rfl, b11.lt, ?_⟩
      rw [Nat.zero_add, cellH_blk b11]
      have hi : i < 2 := (List.getElem?_eq_some_iff.1 hx).1
      match i, hi with
      | 0, _ => injection hx with hx; subst hx; rfl
      | 1, _ => injection hx with hx; subst hx; rfl
    · injection hg with hg; change h9.size = g at hg; subst hg; rw [lay_ge (Nat.le_refl _)]
    · injection hg with hg; change h10.size = g at hg; subst hg; rw [lay_ge (by omega)]
  refine call_of (ZnsP.crash_ok o4 (some ⟨h9.size, 0, none⟩) 2 [0, 0] (some ⟨h10.size, 0, none⟩) 2 [true, true] h11 r11 ins (fun x hx => by simp at hx; omega)) ?_
  rintro v h12 ⟨rfl, t12, r12, f12⟩
  rw [a8] at r12
  have o5 : DevOk D5 := by have := o4.crash [0, 0] [true, true]; rw [a8] at this; exact this
  have bs12 := bs11.own (by decide) f12
  refine ⟨(), rfl, call_of (ZnsP.read_ok o5 1 2 h12 r12) ?_⟩
  rintro v h13 ⟨a13', c13, rfl, g13⟩
  rw [a9] at g13 ⊢
  have r13 := r12.new g13.new
  have bs13 := bs12.newer g13.new
  refine ⟨((a13', 0, c13), errV 6), rfl, call_of (ZnsP.read_ok o5 0 0 h13 r13) ?_⟩
  rintro v h14 ⟨a14', c14, rfl, g14⟩
  rw [a10] at g14 ⊢
  have r14 := r13.new g14.new
  have bs14 := bs13.newer g14.new
  refine ⟨((a14', 0, c14), errV 8), rfl, br_t rfl ⟨errV_if 0, br_t rfl ⟨errV_if 0, br_t rfl (call_of (code_err 5 h14 bs14.lay) ?_)⟩⟩⟩
  rintro v h15 ⟨rfl, n15⟩
  have r15 := r14.new n15
  have bs15 := bs14.newer n15
  refine ⟨(5 : Int), rfl, br_t rfl ⟨errV_if 0, br_t rfl (br_t rfl (call_of (ZnsP.point_ok 1 h15 r15) ?_))⟩⟩
  rintro v h16 ⟨rfl, n16⟩
  rw [a11]
  have r16 := r15.new n16
  have bs16 := bs15.newer n16
  refine ⟨(3 : Int), rfl, br_t rfl (call_of (ZnsP.sure_ok 1 h16 r16) ?_)⟩
  rintro v h17 ⟨rfl, n17⟩
  rw [a12]
  have r17 := r16.new n17
  have bs17 := bs16.newer n17
  refine ⟨(3 : Int), rfl, br_t rfl (call_of (code_err 6 h17 bs17.lay) ?_)⟩
  rintro v h18 ⟨rfl, n18⟩
  have r18 := r17.new n18
  have bs18 := bs17.newer n18
  refine ⟨(6 : Int), rfl, br_t rfl (call_of (code_err 8 h18 bs18.lay) ?_)⟩
  rintro v h19 ⟨rfl, n19⟩
  have r19 := r18.new n19
  have bs19 := bs18.newer n19
  refine ⟨(8 : Int), rfl, br_t rfl (call_of (ZnsP.ops_ok h19 r19) ?_)⟩
  rintro v h' ⟨rfl, hh⟩; subst h'
  refine ⟨(4 : Int), rfl, br_t rfl (call_of (ZnsP.zones_ok h19 r19) ?_)⟩
  rintro v h' ⟨rfl, hh⟩; subst h'
  refine ⟨(2 : Int), rfl, br_t rfl (call_of (ZnsP.pages_ok h19 r19) ?_)⟩
  rintro v h' ⟨rfl, hh⟩; subst h'
  refine ⟨(3 : Int), rfl, br_t rfl (call_of (ZnsP.down_ok h19 r19) ?_)⟩
  rintro v h' ⟨rfl, hh⟩; subst h'
  refine ⟨false, rfl, br_t rfl (call_of (ZnsP.reset_ok o5 1 h19 r19) ?_)⟩
  rintro v h20 ⟨rfl, t20, r20, f20⟩
  have bs20 := bs19.own (by decide) f20
  rw [a13]
  refine ⟨errV 0, rfl, errV_if 0, br_t rfl (call_of (ZnsP.state_ok 1 h20 r20) ?_)⟩
  rintro v h21 ⟨rfl, n21⟩
  rw [a14]
  exact ⟨(0 : Int), rfl, rfl, (bs20.newer n21).new⟩
end Go.Proofs.YtgohecjnjadnpaaDoor.L7
