/-
  The heap by its blocks: what loads and stores come to. Over any program.
-/
import Derived.Test.YtgohecjnjadnpaaDoorPl
namespace Go.Pl
/- THE HEAP BY ITS BLOCKS. -/
def Blk (h : Heap) (b : Nat) (arr : Array Value) (T : TypeId) : Prop := h[b]? = some (.cells arr T (0, 0))
/-- All blocks that were there but b are as they were; there may be new ones. -/
structure Upd (b : Nat) (h h' : Heap) : Prop where
  size : h.size ≤ h'.size
  same : ∀ k, k < h.size → k ≠ b → h'[k]? = h[k]?
/-- All blocks that were there are as they were; there may be new ones. -/
structure New (h h' : Heap) : Prop where
  size : h.size ≤ h'.size
  same : ∀ k, k < h.size → h'[k]? = h[k]?
theorem Only.refl (b : Nat) (h : Heap) : Only b h h := ⟨rfl, fun _ _ => rfl⟩
theorem Only.trans {b : Nat} {x y z : Heap} (h : Only b x y) (k : Only b y z) : Only b x z := ⟨k.size.trans h.size, fun i hi => (k.same i hi).trans (h.same i hi)⟩
theorem Only.upd {b : Nat} {x y : Heap} (h : Only b x y) : Upd b x y := ⟨Nat.le_of_eq h.size.symm, fun k _ hk => h.same k hk⟩
theorem Upd.refl (b : Nat) (h : Heap) : Upd b h h := ⟨Nat.le_refl _, fun _ _ _ => rfl⟩
theorem Upd.trans {b : Nat} {x y z : Heap} (h : Upd b x y) (k : Upd b y z) : Upd b x z :=
  ⟨Nat.le_trans h.size k.size, fun i hi hb => (k.same i (Nat.lt_of_lt_of_le hi h.size) hb).trans (h.same i hi hb)⟩
theorem New.refl (h : Heap) : New h h := ⟨Nat.le_refl _, fun _ _ => rfl⟩
theorem New.trans {x y z : Heap} (h : New x y) (k : New y z) : New x z := ⟨Nat.le_trans h.size k.size, fun i hi => (k.same i (Nat.lt_of_lt_of_le hi h.size)).trans (h.same i hi)⟩
theorem New.upd {b : Nat} {x y : Heap} (h : New x y) : Upd b x y := ⟨h.size, fun k hk _ => h.same k hk⟩
theorem Upd.new {b : Nat} {w x y : Heap} (h : Upd b x y) (hw : New w x) (hb : w.size ≤ b) : New w y :=
  ⟨Nat.le_trans hw.size h.size, fun k hk => (h.same k (Nat.lt_of_lt_of_le hk hw.size) (by omega)).trans (hw.same k hk)⟩
theorem New.push (h : Heap) (o : Obj) : New h (h.push o) := ⟨by simp, fun k hk => by rw [Array.getElem?_push, if_neg (by omega)]⟩
theorem New.ext {h h' : Heap} (n : New h h') : Ext h h' := by
  refine ⟨h'.extract h.size h'.size, ?_⟩
  apply Array.ext_getElem?
  intro k
  by_cases hk : k < h.size
  · rw [Array.getElem?_append_left hk, n.same k hk]
  · have := n.size
    rw [Array.getElem?_append_right (by omega), Array.getElem?_extract]
    by_cases hk' : k < h'.size
    · rw [if_pos (by omega)]; congr 1; omega
    · rw [if_neg (by omega), Array.getElem?_eq_none (by omega)]
theorem Blk.lt {h : Heap} {b : Nat} {arr : Array Value} {T : TypeId} (hb : Blk h b arr T) : b < h.size := (Array.getElem?_eq_some_iff.1 hb).1
theorem Blk.new {h h' : Heap} {b : Nat} {arr : Array Value} {T : TypeId} (hb : Blk h b arr T) (hn : New h h') : Blk h' b arr T := (hn.same b hb.lt).trans hb
theorem Blk.upd {h h' : Heap} {b c : Nat} {arr : Array Value} {T : TypeId} (hb : Blk h b arr T) (hn : Upd c h h') (hne : b ≠ c) : Blk h' b arr T := (hn.same b hb.lt hne).trans hb
theorem Blk.only {h h' : Heap} {b c : Nat} {arr : Array Value} {T : TypeId} (hb : Blk h b arr T) (hn : Only c h h') (hne : b ≠ c) : Blk h' b arr T := (hn.same b hne).trans hb
theorem Blk.push (h : Heap) (arr : Array Value) (T : TypeId) : Blk (h.push (.cells arr T)) h.size arr T := by simp [Blk]
theorem Blk.inj {h : Heap} {b : Nat} {arr arr' : Array Value} {T T' : TypeId} (h1 : Blk h b arr T) (h2 : Blk h b arr' T') : arr = arr' := by
  unfold Blk at h1 h2; rw [h1] at h2; injection h2 with h2; injection h2
theorem cellH_blk {h : Heap} {b o : Nat} {arr : Array Value} {T : TypeId} (hb : Blk h b arr T) : cellH h ⟨b, o, none⟩ = arr[o]? := by
  show World.cell? (hw h) ⟨b, o, none⟩ = _
  have hb' : (hw h).heap[b]? = some (.cells arr T (0, 0)) := hb
  simp [World.cell?, hb']
theorem frozenH_blk {h : Heap} {b o : Nat} {arr : Array Value} {T : TypeId} (hb : Blk h b arr T) : frozenH h ⟨b, o, none⟩ = false := by
  show World.frozen? (hw h) ⟨b, o, none⟩ = _
  have hb' : (hw h).heap[b]? = some (.cells arr T (0, 0)) := hb
  simp [World.frozen?, hb']
theorem setH_size (h : Heap) (a : Addr) (v : Value) : (setH h a v).size = h.size := World.size_setCell (hw h) a v
theorem setH_blk {h : Heap} {b o : Nat} {arr : Array Value} {T : TypeId} (v : Value) (hb : Blk h b arr T) : Blk (setH h ⟨b, o, none⟩ v) b (arr.setIfInBounds o v) T := by
  obtain ⟨hlt, hk⟩ := Array.getElem?_eq_some_iff.1 hb
  show (Array.modify h b _)[b]? = _
  rw [Array.getElem?_eq_getElem (by rw [Array.size_modify]; exact hlt), Array.getElem_modify_self, hk]
  rfl
theorem setH_only {h : Heap} {b o : Nat} (v : Value) : Only b h (setH h ⟨b, o, none⟩ v) :=
  ⟨setH_size _ _ _, fun k hk => Go.RowKit.Below.heap_setCell (hw h) ⟨b, o, none⟩ v k hk⟩
theorem add_mk (b o n : Nat) : Addr.add ⟨b, o, none⟩ n = ⟨b, o + n, none⟩ := by
  unfold Addr.add; split <;> simp_all
def setsA (arr : Array Value) : Nat → List Value → Array Value
  | _, [] => arr
  | o, v :: vs => setsA (arr.setIfInBounds o v) (o + 1) vs
theorem setsA_size : ∀ (vs : List Value) (arr : Array Value) (o : Nat), (setsA arr o vs).size = arr.size
  | [], _, _ => rfl
  | v :: vs, arr, o => by simp [setsA, setsA_size vs]
theorem setsA_get : ∀ (vs : List Value) (arr : Array Value) (o i : Nat), (setsA arr o vs)[i]? = if o ≤ i ∧ i < o + vs.length ∧ i < arr.size then vs[i - o]? else arr[i]?
  | [], arr, o, i => by simp [setsA]; omega
  | v :: vs, arr, o, i => by
    simp only [setsA, setsA_get vs, Array.size_setIfInBounds, List.length_cons]
    by_cases h1 : o + 1 ≤ i ∧ i < o + 1 + vs.length ∧ i < arr.size
    · rw [if_pos h1, if_pos (by omega), show i - o = (i - (o + 1)) + 1 by omega, List.getElem?_cons_succ]
    · rw [if_neg h1]
      by_cases h2 : o = i
      · subst h2
        by_cases h3 : o < arr.size
        · rw [if_pos (by omega)]; simp [h3]
        · rw [if_neg (by omega)]; simp [h3]
      · rw [if_neg (by omega), Array.getElem?_setIfInBounds_ne h2]
theorem wrH_blk : ∀ (vs : List Value) (h : Heap) (b o i : Nat) (arr : Array Value) (T : TypeId), Blk h b arr T → Blk (wrH h ⟨b, o, none⟩ i vs) b (setsA arr (o + i) vs) T
  | [], _, _, _, _, _, _, hb => hb
  | v :: vs, h, b, o, i, arr, T, hb => by
    simp only [wrH, add_mk, setsA]
    exact wrH_blk vs _ b o (i + 1) _ T (setH_blk v hb)
theorem wrH_only : ∀ (vs : List Value) (h : Heap) (b o i : Nat), Only b h (wrH h ⟨b, o, none⟩ i vs)
  | [], h, b, _, _ => Only.refl b h
  | v :: vs, h, b, o, i => by
    simp only [wrH, add_mk]
    exact (setH_only v).trans (wrH_only vs _ b o (i + 1))
theorem canWr_blk {h : Heap} {b o n : Nat} {arr : Array Value} {T : TypeId} (hb : Blk h b arr T) (hn : o + n ≤ arr.size) : canWr h ⟨b, o, none⟩ 0 n := by
  intro j hj
  rw [add_mk, cellH_blk hb, frozenH_blk hb]
  have : o + j < arr.size := by omega
  simp [this]
/- THE FORMULAS, GOALWARD. -/
theorem br_of {b : Bool} {A B : Prop} (h1 : b = true → A) (h2 : b = false → B) : br b A B := by cases b <;> simp_all [br]
theorem br_t {b : Bool} {A B : Prop} (hb : b = true) (h : A) : br b A B := by subst hb; exact h
theorem br_f {b : Bool} {A B : Prop} (hb : b = false) (h : B) : br b A B := by subst hb; exact h
theorem ld_of {c : CTy} {a : Addr} {F : c.T → Prop} {h : Heap} (x : c.T) (hc : cellH h a = some (c.val x)) (hF : F x) : ldW c a F h := ⟨x, hc, hF⟩
theorem st_blk {h : Heap} {b o : Nat} {arr : Array Value} {T : TypeId} {v : Value} {F : Heap → Prop} (hb : Blk h b arr T) (ho : o < arr.size)
    (hF : ∀ h', Blk h' b (arr.setIfInBounds o v) T → Only b h h' → F h') : stW ⟨b, o, none⟩ v F h :=
  ⟨⟨by rw [cellH_blk hb]; simp [ho], frozenH_blk hb⟩, hF _ (setH_blk v hb) (setH_only v)⟩
theorem stL_blk {h : Heap} {b o : Nat} {arr : Array Value} {T : TypeId} {vs : List Value} {F : Heap → Prop} (hb : Blk h b arr T) (ho : o + vs.length ≤ arr.size)
    (hF : ∀ h', Blk h' b (setsA arr o vs) T → Only b h h' → F h') : stLW ⟨b, o, none⟩ vs F h :=
  ⟨canWr_blk hb ho, hF _ (by have := wrH_blk vs h b o 0 arr T hb; simpa using this) (wrH_only vs h b o 0)⟩
theorem new_of {arr : Array Value} {T : TypeId} {F : Addr → Heap → Prop} {h : Heap} (hF : ∀ h', Blk h' h.size arr T → New h h' → h'.size = h.size + 1 → F ⟨h.size, 0, none⟩ h') : newW (.cells arr T) F h :=
  hF _ (Blk.push h arr T) (New.push h _) (by simp)
theorem call_of {P : Program} {f : FuncId} {args : List Value} {ts : List Ty} {F : TT ts → Heap → Prop} {h : Heap} {R : Value → Heap → Prop} (hc : CallsH P f args h R)
    (hR : ∀ v h', R v h' → ∃ s, v = retV ts s ∧ F s h') : callT P f args ts F h := .inl (hc.mono hR)
theorem ext_of {P : Program} {f : FuncId} {args : List Value} {ts : List Ty} {F : TT ts → Heap → Prop} {h : Heap} {R : Value → Heap → Prop} (hc : extH P f args h R)
    (hR : ∀ v h', R v h' → ∃ s, v = retV ts s ∧ F s h') : callT P f args ts F h := CallX.mono (.inr hc) hR
theorem inv_of {P : Program} {T : Ty} {t : TypeId} {u : Value} {name : String} {args : List Value} {F : T.T → Heap → Prop} {h : Heap} {R : Value → Heap → Prop} {f : FuncId} {r : Value} (hm : ∀ w : World, (method (P.types.size + Made.depth) t u name).run P w = .ok (f, r) w) (hc : CallX P f (r :: args) h R)
    (hR : ∀ v h', R v h' → ∃ s : T.T, v = T.val s ∧ F s h') : invW P T (.iface t u) name args F h := ⟨f, r, hm, CallX.mono hc hR⟩
theorem callW_of {P : Program} {T : Ty} {g : FuncId} {first cap : Array Value} {args : List Value} {F : T.T → Heap → Prop} {h : Heap} {R : Value → Heap → Prop} (hc : CallsH P g (first.toList ++ args ++ cap.toList) h R)
    (hR : ∀ v h', R v h' → ∃ s : T.T, v = T.val s ∧ F s h') : callW P T (.func (.func g) first cap) args F h := hc.mono hR
theorem cut_of {ts : List Ty} {A : (TT ts → Heap → Prop) → Heap → Prop} {B : TT ts → (Nat → Value) → Heap → Prop} {h : Heap} (hA : A (fun s h' => ∀ j, B s j h') h) : cutT ts A B h := hA
def rowAt (arr : Array Value) : Nat → List Value → Prop
  | _, [] => True
  | o, v :: vs => arr[o]? = some v ∧ rowAt arr (o + 1) vs
theorem ldAgg_blk {cs : List CTy} {b o : Nat} {arr : Array Value} {T : TypeId} {F : CT cs → Prop} {h : Heap} (s : CT cs) (hb : Blk h b arr T) (hc : rowAt arr o (cvals cs s)) (hF : F s) : ldAggW cs ⟨b, o, none⟩ F h := by
  refine ⟨s, ?_, hF⟩
  have key : ∀ (l : List Value) (i : Nat), rowAt arr (o + i) l → cellsAre h ⟨b, o, none⟩ i l := by
    intro l
    induction l with
    | nil => intro i _; trivial
    | cons v l ih =>
      intro i hh
      exact ⟨by rw [add_mk, cellH_blk hb]; exact hh.1, ih (i + 1) hh.2⟩
  exact key _ 0 hc
theorem wr64 {n : Int} (h0 : -9223372036854775808 ≤ n) (h1 : n ≤ 9223372036854775807) : IntKind.wrap .i64 n = n := IntWalk.i64_in _ (by omega)
theorem wru32 {n : Int} : IntKind.wrap .u32 n = n % 4294967296 := by
  simp [IntKind.wrap, IntKind.bits, IntKind.signed]
end Go.Pl
