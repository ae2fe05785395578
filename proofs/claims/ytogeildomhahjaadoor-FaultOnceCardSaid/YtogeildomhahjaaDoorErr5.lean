/-
  fault.Trail and fault.Place over chains of faults.
-/
import Derived.Test.YtogeildomhahjaaDoorErr4
namespace Go.Proofs.YtogeildomhahjaaDoor.Err
open Go.RowKit Go.Extern.Stop Go.Stop Go.Extern Go.Pl Go.Proofs.YtogeildomhahjaaDoor.W Go.Proofs.YtogeildomhahjaaDoor.As
theorem pushV {P : Program} {t e : TypeId} {bytes base n c : Nat} {a : Option Addr} {xs : List Value} {v : Value} {h1 : Heap} (hB : apB P t e 1 bytes = true) (ow : OwnH h1 base e 1 a n c xs) (hv : v.oneCell' = true) (hn : n ≤ 1000000) (hby : bytes ≤ 64) (hbase : base ≤ h1.size)
    {F : Option Addr → Nat → Nat → Heap → Prop}
    (hF : ∀ a' c' h2, OwnH h2 base e 1 a' (n + 1) c' (xs ++ [v]) → Abo base h1 h2 → F a' (n + 1) c' h2) :
    newW (.cells #[v] e) (fun p h' => apW P #[t, t] #[.slice a n c, .slice (some p) 1 1] F h') h1 := by
  refine push1 hB ow hv hn hby hbase fun a' c' h2 o2 n2 s2 => hF a' c' h2 o2 ⟨s2, fun i hi hk => ?_⟩
  have hs : (h1.extract 0 base).size = base := by simp [hbase]
  have hn0 : New (h1.extract 0 base) h1 := ⟨by rw [hs]; exact hbase, fun j hj => by rw [hs] at hj; rw [Array.getElem?_extract, if_pos (by omega)]; simp⟩
  have := (n2 _ hn0 (by rw [hs]; exact Nat.le_refl _)).same i (by rw [hs]; exact hi)
  rw [this, Array.getElem?_extract, if_pos (by omega)]; simp
theorem zeroPF : zeroC Tryd.prog 90 = #[.pointer none] := by kernel_rfl
/-- A row of strings that a call made. -/
def StrsF (h h' : Heap) (v : Value) (xs : List ByteArray) : Prop := ∃ a c, v = .slice a xs.length c ∧ OwnH h' h.size 9 1 a xs.length c (xs.map Value.string) ∧ New h h'
set_option maxRecDepth 20000 in
theorem trail_ok (v : Value) (l : List (ByteArray × Int)) (c : Int) (h : Heap) (hg : Laid h) (he : ErrC h v l c) (hl : l.length ≤ 1000) :
    CallsH Tryd.prog 42 [v] h fun r h' => StrsF h h' r (l.map (·.1)) := by
  refine fun_ok hm' Tryd.func42 (by kernel_rfl) (F42_eq _ _ h) ?_
  unfold F42
  rw [zeroPF]
  refine new_of fun h1 b1 n1 s1 => ?_
  refine ⟨fun (s : Value × (Option Addr × Nat × Nat)) h' => ∃ (done rest : List (ByteArray × Int)) (old : Value), l = done ++ rest ∧ ErrC h s.1 rest c ∧ s.2.2.1 = done.length ∧ OwnH h' h1.size 9 1 s.2.1 done.length s.2.2.2 ((done.map (·.1)).map Value.string) ∧ Blk h' h.size #[old] 90 ∧ New h h', fun (s : Value × (Option Addr × Nat × Nat)) _ => lenE h s.1, ⟨[], l, _, rfl, he, rfl, OwnH.nil _ _ _ _, b1, n1⟩, ?_⟩
  rintro ⟨s, a, n, cc⟩ _ h2 ⟨done, rest, old, hl2, es, hn, ow, bt, n2⟩
  simp only at hn es ow
  subst hn
  have hlen := congrArg List.length hl2
  simp only [List.length_append] at hlen
  cases rest with
  | nil =>
    obtain rfl : s = errV c := es
    refine call_of (asF_no h.size c h2 (hg.new n2)) ?_
    rintro r h3 ⟨rfl, n3⟩
    refine ⟨false, rfl, br_f rfl ?_⟩
    rw [List.append_nil] at hl2
    subst hl2
    exact ⟨a, cc, by simp, by simpa using (ow.grow n3).low (by omega), n2.trans n3⟩
  | cons p rest =>
    obtain ⟨op, at_⟩ := p
    have es0 := es
    obtain ⟨_, b, v', rfl, hb, ev⟩ := es
    refine call_of (asF_ok h.size old _ b h2 (hg.new n2) bt) ?_
    rintro r h3 ⟨rfl, b3, u3⟩
    have n3 : New h h3 := u3.new n2 (Nat.le_refl _)
    have l3 := b3.lt
    have ow3 := ow.upd u3 fun e => by have := (ow.blk_ge _ e).1; omega
    refine ⟨true, rfl, br_t rfl (ld_of (c := .ptr) (some ⟨b, 0, none⟩) (by rw [cellH_blk b3]; rfl) (ptr_of (ld_of (c := .str) op (by rw [add_mk, cellH_blk (hb.new n3)]; rfl) ?_)))⟩
    refine pushV (bytes := 16) (by kernel_rfl) ow3 rfl (by omega) (by decide) (by omega) fun a' c' h4 ow4 ab => ?_
    have b4 := b3.abo ab (by omega)
    have n4 : New h h4 := Abo.from n3 ab (by omega)
    refine ld_of (c := .ptr) (some ⟨b, 0, none⟩) (by rw [cellH_blk b4]; rfl) (ptr_of (ld_of (c := .any) v' (by rw [add_mk, cellH_blk (hb.new n4)]; rfl) ⟨⟨done ++ [(op, at_)], rest, _, by rw [hl2]; simp, ev, by simp, by simpa using ow4, b4, n4⟩, ?_⟩))
    show lenE _ _ < lenE _ _
    rw [lenE_of ev, lenE_of es0]
    simp
/-- The place of the outmost fault of that name. -/
def placeL : List (ByteArray × Int) → ByteArray → Int × Bool
  | [], _ => (0, false)
  | (o, a) :: l, op => if o.toList == op.toList then (a, true) else placeL l op
set_option maxRecDepth 20000 in
theorem place_ok (v : Value) (l : List (ByteArray × Int)) (c : Int) (op : ByteArray) (h : Heap) (hg : Laid h) (he : ErrC h v l c) :
    CallsH Tryd.prog 39 [v, .string op] h fun r h' => r = .tuple #[.int .i64 (placeL l op).1, .bool (placeL l op).2] ∧ New h h' := by
  refine fun_ok hm' Tryd.func39 (by kernel_rfl) (F39_eq _ _ _ h) ?_
  unfold F39
  rw [zeroPF]
  refine new_of fun h1 b1 n1 s1 => ?_
  refine ⟨fun (s : Value) h' => ∃ (rest : List (ByteArray × Int)) (old : Value), placeL l op = placeL rest op ∧ ErrC h s rest c ∧ Blk h' h.size #[old] 90 ∧ New h h', fun (s : Value) _ => lenE h s, ⟨l, _, rfl, he, b1, n1⟩, ?_⟩
  rintro s _ h2 ⟨rest, old, hl2, es, bt, n2⟩
  cases rest with
  | nil =>
    obtain rfl : s = errV c := es
    refine call_of (asF_no h.size c h2 (hg.new n2)) ?_
    rintro r h3 ⟨rfl, n3⟩
    exact ⟨false, rfl, br_f rfl ⟨by rw [hl2]; rfl, n2.trans n3⟩⟩
  | cons p rest =>
    obtain ⟨o, at_⟩ := p
    have es0 := es
    obtain ⟨_, b, v', rfl, hb, ev⟩ := es
    refine call_of (asF_ok h.size old _ b h2 (hg.new n2) bt) ?_
    rintro r h3 ⟨rfl, b3, u3⟩
    have n3 : New h h3 := u3.new n2 (Nat.le_refl _)
    have hp : ∀ {F : Addr → Prop}, F ⟨b, 0, none⟩ → ldW .ptr ⟨h.size, 0, none⟩ (fun (x : Option Addr) => ptrW x F) h3 := fun hF => ld_of (c := .ptr) (some ⟨b, 0, none⟩) (by rw [cellH_blk b3]; rfl) (ptr_of hF)
    refine ⟨true, rfl, br_t rfl (hp (ld_of (c := .str) o (by rw [add_mk, cellH_blk (hb.new n3)]; rfl) ?_))⟩
    cases ho : (o.toList == op.toList) with
    | true => exact br_t rfl (hp (ld_of (c := .int .i64) at_ (by rw [add_mk, cellH_blk (hb.new n3)]; rfl) ⟨by rw [hl2]; simp [placeL, ho], n3⟩))
    | false =>
      refine br_f rfl (hp (ld_of (c := .any) v' (by rw [add_mk, cellH_blk (hb.new n3)]; rfl) ⟨⟨rest, _, by rw [hl2]; simp [placeL, ho], ev, b3, n3⟩, ?_⟩))
      show lenE _ _ < lenE _ _
      rw [lenE_of ev, lenE_of es0]
      simp
end Go.Proofs.YtogeildomhahjaaDoor.Err
