/-
  Devices of zones: what they are, and how they lie in memory. No code in sight.
-/
import Derived.Test.YtgohecjnjadnpaaDoorByts
import Derived.Test.YtgohecjnjadnpaaDoorUpto
import Derived.Test.YtgohecjnjadnpaaDoorWZns
namespace Go.Proofs.YtgohecjnjadnpaaDoor.Zns
open Go.Pl Go.Proofs.YtgohecjnjadnpaaDoor.Byts
/- WHAT A DEVICE IS. -/
/-- A zone: its pages (a torn one has no bytes), how many are sure, and whether it is finished. -/
structure Zn where
  pages : List (List Int)
  sure : Nat
  fin : Bool
def Zn.bare : Zn := ⟨[], 0, false⟩
structure Dev where
  zs : List Zn
  P : Nat
  fuse : Int
  ops : Int
  down : Bool
/-- What holds of each zone, and of each device. -/
structure ZnOk (P : Nat) (Z : Zn) : Prop where
  sure : Z.sure ≤ Z.pages.length
  most : Z.pages.length ≤ P
  page : ∀ p ∈ Z.pages, Byt p ∧ (p.length = 33 ∨ p = [])
structure DevOk (D : Dev) : Prop where
  zones : 1 ≤ D.zs.length ∧ D.zs.length ≤ 24
  pages : 1 ≤ D.P ∧ D.P ≤ 16
  fuse : -1 ≤ D.fuse ∧ D.fuse ≤ 9223372036854775807
  zone : ∀ Z ∈ D.zs, ZnOk D.P Z
theorem ZnOk.nil (P : Nat) : ZnOk P Zn.bare := ⟨Nat.le_refl _, Nat.zero_le _, fun p hp => by cases hp⟩
def Dev.there (D : Dev) (n : Int) : Bool := decide (0 ≤ n ∧ n < (D.zs.length : Int))
def Dev.at_ (D : Dev) (n : Int) : Zn := if D.there n = true then D.zs.getD n.toNat Zn.bare else Zn.bare
theorem there_nat {D : Dev} {n : Int} (h : D.there n = true) : ∃ z : Nat, n = z ∧ z < D.zs.length := by
  have := of_decide_eq_true h
  exact ⟨n.toNat, by omega, by omega⟩
theorem there_of {D : Dev} {z : Nat} (h : z < D.zs.length) : D.there (z : Int) = true := decide_eq_true ⟨by omega, by omega⟩
theorem at_of {D : Dev} {z : Nat} (h : z < D.zs.length) : D.at_ (z : Int) = D.zs[z] := by
  unfold Dev.at_; rw [if_pos (there_of h), Int.toNat_natCast, List.getD_eq_getElem?_getD, List.getElem?_eq_getElem h]; rfl
theorem at_none {D : Dev} {n : Int} (h : D.there n = false) : D.at_ n = Zn.bare := by unfold Dev.at_; rw [if_neg (by simp [h])]
theorem DevOk.at_ {D : Dev} (o : DevOk D) (n : Int) : ZnOk D.P (D.at_ n) := by
  cases h : D.there n with
  | false => rw [at_none h]; exact ZnOk.nil _
  | true => obtain ⟨z, rfl, hz⟩ := there_nat h; rw [at_of hz]; exact o.zone _ (List.getElem_mem hz)
def Dev.point (D : Dev) (n : Int) : Nat := (D.at_ n).pages.length
def Dev.sure (D : Dev) (n : Int) : Nat := (D.at_ n).sure
def Dev.state (D : Dev) (n : Int) : Int :=
  if (D.at_ n).pages.length = 0 then 0 else if (D.at_ n).fin = true ∨ (D.at_ n).pages.length = D.P then 2 else 1
/-- A call that takes of the fuse. -/
def Dev.doing (D : Dev) (e : Int) : Dev × Int :=
  if D.down = true then (D, 7) else if e ≠ 0 then (D, e) else if D.fuse = 0 then ({ D with down := true }, 7)
  else ({ D with fuse := max (D.fuse - 1) (-1), ops := IntKind.wrap .i64 (D.ops + 1) }, 0)
def Dev.setZ (D : Dev) (n : Int) (Z : Zn) : Dev := { D with zs := D.zs.set n.toNat Z }
def Dev.appendE (D : Dev) (n : Int) (b : List Int) : Int := if D.there n = false ∨ b.length ≠ 33 then 1 else if D.state n = 2 then 5 else 0
def Dev.append (D : Dev) (n : Int) (b : List Int) : Dev × Int × Int :=
  let r := D.doing (D.appendE n b)
  if r.2 ≠ 0 then (r.1, 0, r.2) else (r.1.setZ n { D.at_ n with pages := (D.at_ n).pages ++ [b] }, D.point n, 0)
def Dev.read (D : Dev) (n p : Int) : List Int × Int :=
  if D.down = true then ([], 7) else if D.there n = false ∨ p < 0 ∨ p ≥ D.P then ([], 1)
  else if p ≥ (D.at_ n).pages.length then ([], 8) else if ((D.at_ n).pages.getD p.toNat []).length = 0 then ([], 6) else ((D.at_ n).pages.getD p.toNat [], 0)
def Dev.resetE (D : Dev) (n : Int) : Int := if D.there n = false then 1 else 0
def Dev.reset (D : Dev) (n : Int) : Dev × Int :=
  let r := D.doing (D.resetE n)
  if r.2 ≠ 0 then r else (r.1.setZ n Zn.bare, 0)
def Dev.finishE (D : Dev) (n : Int) : Int := if D.there n = false then 1 else if D.state n = 0 then 11 else 0
def Dev.finish (D : Dev) (n : Int) : Dev × Int :=
  let r := D.doing (D.finishE n)
  if r.2 ≠ 0 then r else (r.1.setZ n { D.at_ n with fin := true }, 0)
def Zn.settle (Z : Zn) : Zn := { Z with sure := Z.pages.length }
def Dev.settle (D : Dev) : Dev := { D with zs := D.zs.map Zn.settle }
def Dev.flush (D : Dev) : Dev × Int :=
  let r := D.doing 0
  if r.2 ≠ 0 then r else (r.1.settle, 0)
def Dev.setFuse (D : Dev) (n : Int) : Dev := { D with fuse := max n (-1) }
/-- What a zone keeps in a crash. -/
def Zn.stay (Z : Zn) (keep : List Int) (i : Nat) : Nat := match keep[i]? with
  | some k => Z.sure + min k.toNat (Z.pages.length - Z.sure)
  | none => Z.sure
def Zn.torn (Z : Zn) (keep : List Int) (tear : List Bool) (i : Nat) : Bool := tear.getD i false && decide (Z.stay keep i < Z.pages.length)
def Zn.crash (Z : Zn) (keep : List Int) (tear : List Bool) (i : Nat) : Zn :=
  let l := Z.pages.take (Z.stay keep i) ++ (if Z.torn keep tear i = true then [[]] else [])
  ⟨l, l.length, Z.fin⟩
def Dev.crash (D : Dev) (keep : List Int) (tear : List Bool) : Dev := { D with zs := D.zs.mapIdx fun i Z => Z.crash keep tear i, fuse := -1, down := false }
def Dev.empty (n P : Nat) : Dev := ⟨List.replicate n Zn.bare, P, -1, 0, false⟩
/- What holds, stays. -/
theorem DevOk.doing {D : Dev} (o : DevOk D) (e : Int) : DevOk (D.doing e).1 := by
  unfold Dev.doing; split
  · exact o
  · split
    · exact o
    · split
      · exact ⟨o.zones, o.pages, o.fuse, o.zone⟩
      · exact ⟨o.zones, o.pages, ⟨Int.le_max_right .., by have := o.fuse; simp only []; omega⟩, o.zone⟩
theorem doing_zs (D : Dev) (e : Int) : (D.doing e).1.zs = D.zs := by
  unfold Dev.doing; split
  · rfl
  · split
    · rfl
    · split <;> rfl
theorem doing_P (D : Dev) (e : Int) : (D.doing e).1.P = D.P := by
  unfold Dev.doing; split
  · rfl
  · split
    · rfl
    · split <;> rfl
theorem doing_no {D : Dev} {e : Int} (h : e ≠ 0) : (D.doing e).2 ≠ 0 := by
  unfold Dev.doing; split
  · simp
  · exact h
theorem doing_ok {D : Dev} {e : Int} (h : (D.doing e).2 = 0) : e = 0 ∧ D.down = false ∧ D.fuse ≠ 0 ∧ (D.doing e).1 = { D with fuse := max (D.fuse - 1) (-1), ops := IntKind.wrap .i64 (D.ops + 1) } := by
  unfold Dev.doing at h ⊢
  split at h
  · cases h
  · rename_i hd
    split at h
    · rename_i h1; exact (h1 h).elim
    · rename_i h1
      split at h
      · cases h
      · rename_i h2
        refine ⟨Classical.not_not.1 h1, by simpa using hd, h2, ?_⟩
        rw [if_neg hd, if_neg h1, if_neg h2]
theorem DevOk.setZ {D : Dev} (o : DevOk D) {n : Int} {Z : Zn} (hz : ZnOk D.P Z) : DevOk (D.setZ n Z) :=
  ⟨by simpa [Dev.setZ] using o.zones, o.pages, o.fuse, fun Y hY => by
    rcases List.mem_or_eq_of_mem_set hY with h | rfl
    · exact o.zone Y h
    · exact hz⟩
theorem DevOk.append {D : Dev} (o : DevOk D) (n : Int) {b : List Int} (hb : Byt b) : DevOk (D.append n b).1 := by
  unfold Dev.append
  simp only []
  split
  · exact o.doing _
  · rename_i h
    have h := Classical.not_not.1 h
    obtain ⟨he, _, _, _⟩ := doing_ok h
    have ho := o.at_ n
    refine (o.doing _).setZ ?_
    rw [doing_P]
    unfold Dev.appendE at he
    split at he
    · cases he
    · rename_i h1
      split at he
      · cases he
      · rename_i h2
        have h33 : b.length = 33 := by
          apply Classical.byContradiction; intro hc; exact h1 (.inr hc)
        refine ⟨by simp only [List.length_append]; have := ho.sure; omega, ?_, fun p hp => ?_⟩
        · simp only [List.length_append, List.length_singleton]
          have := ho.most
          have : (D.at_ n).pages.length ≠ D.P := by
            intro e
            apply h2
            unfold Dev.state
            rw [if_neg (by have := o.pages; omega), if_pos (.inr e)]
          omega
        · rcases List.mem_append.1 hp with hp | hp
          · exact ho.page p hp
          · obtain rfl := List.mem_singleton.1 hp; exact ⟨hb, .inl h33⟩
theorem DevOk.reset {D : Dev} (o : DevOk D) (n : Int) : DevOk (D.reset n).1 := by
  unfold Dev.reset
  simp only []
  split
  · exact o.doing _
  · exact (o.doing _).setZ (ZnOk.nil _)
theorem DevOk.finish {D : Dev} (o : DevOk D) (n : Int) : DevOk (D.finish n).1 := by
  unfold Dev.finish
  simp only []
  split
  · exact o.doing _
  · refine (o.doing _).setZ ?_
    rw [doing_P]
    exact ⟨(o.at_ n).sure, (o.at_ n).most, (o.at_ n).page⟩
theorem DevOk.settle {D : Dev} (o : DevOk D) : DevOk D.settle :=
  ⟨by simpa [Dev.settle] using o.zones, o.pages, o.fuse, fun Y hY => by
    obtain ⟨Z, hZ, rfl⟩ := List.mem_map.1 hY
    exact ⟨Nat.le_refl _, (o.zone Z hZ).most, (o.zone Z hZ).page⟩⟩
theorem DevOk.flush {D : Dev} (o : DevOk D) : DevOk D.flush.1 := by
  unfold Dev.flush
  simp only []
  split
  · exact o.doing _
  · exact (o.doing _).settle
theorem stay_le {P : Nat} {Z : Zn} (o : ZnOk P Z) (keep : List Int) (i : Nat) : Z.sure ≤ Z.stay keep i ∧ Z.stay keep i ≤ Z.pages.length := by
  unfold Zn.stay
  have := o.sure
  split <;> omega
theorem ZnOk.crash {P : Nat} {Z : Zn} (o : ZnOk P Z) (keep : List Int) (tear : List Bool) (i : Nat) : ZnOk P (Z.crash keep tear i) := by
  have hs := stay_le o keep i
  refine ⟨Nat.le_refl _, ?_, fun p hp => ?_⟩
  · simp only [Zn.crash]
    have := o.most
    split
    · rename_i h
      simp only [Zn.torn, Bool.and_eq_true, decide_eq_true_eq] at h
      simp only [List.length_append, List.length_take, List.length_singleton]; omega
    · simp only [List.append_nil, List.length_take]; omega
  · simp only [Zn.crash] at hp
    rcases List.mem_append.1 hp with hp | hp
    · exact o.page p (List.mem_of_mem_take hp)
    · split at hp
      · obtain rfl := List.mem_singleton.1 hp; exact ⟨(fun x hx => by cases hx), .inr rfl⟩
      · cases hp
theorem DevOk.crash {D : Dev} (o : DevOk D) (keep : List Int) (tear : List Bool) : DevOk (D.crash keep tear) :=
  ⟨by simpa [Dev.crash] using o.zones, o.pages, ⟨by simp only [Dev.crash]; omega, by simp only [Dev.crash]; omega⟩, fun Y hY => by
    simp only [Dev.crash, List.mem_mapIdx] at hY
    obtain ⟨i, hi, rfl⟩ := hY
    exact (o.zone _ (List.getElem_mem hi)).crash keep tear i⟩
theorem DevOk.setFuse {D : Dev} (o : DevOk D) {n : Int} (h : n ≤ 9223372036854775807) : DevOk (D.setFuse n) := ⟨o.zones, o.pages, ⟨Int.le_max_right .., by simp only [Dev.setFuse]; omega⟩, o.zone⟩
theorem DevOk.empty {n P : Nat} (h1 : 1 ≤ n ∧ n ≤ 24) (h2 : 1 ≤ P ∧ P ≤ 16) : DevOk (Dev.empty n P) :=
  ⟨by simpa [Dev.empty] using h1, h2, ⟨by simp [Dev.empty], by simp [Dev.empty]⟩, fun Z hZ => by rw [List.eq_of_mem_replicate hZ]; exact ZnOk.nil _⟩
/- HOW IT LIES IN MEMORY. -/
/-- How much room a slice may have. -/
def Cp (a : Option Addr) (n c : Nat) : Prop := n ≤ c ∧ c ≤ maxLen ∧ (a = none → c = 0)
theorem Cp.none : Cp none 0 0 := ⟨Nat.le_refl _, Nat.zero_le _, fun _ => rfl⟩
/-- The row of a zone's pages: it belongs to owner k, there to part 2 + z; the pages' bytes belong to nobody. -/
structure PRow (k z : Nat) (t : Tags) (h : Heap) (a : Option Addr) (c : Nat) (pages : List (List Int)) : Prop where
  row : ∃ vs, RowS h 25 1 a pages.length c vs ∧ ∀ (i : Nat) (p : List Int), pages[i]? = some p → ∃ a' c', vs[i]? = some (.slice a' p.length c') ∧ Im .u8 t h a' p ∧ Cp a' p.length c'
  tag : ∀ g, blkOf a = some g → g < h.size ∧ t g = (k, 2 + z)
theorem PRow.fr {S : Nat × Nat → Prop} {k z : Nat} {t t' : Tags} {h h' : Heap} {a : Option Addr} {c : Nat} {pages : List (List Int)} (r : PRow k z t h a c pages) (s : Fr S t h t' h') (hS : ∀ p : Nat × Nat, p.1 = 0 → S p) (hk : S (k, 2 + z)) : PRow k z t' h' a c pages := by
  obtain ⟨⟨vs, hr, hv⟩, ht⟩ := r
  refine ⟨⟨vs, hr.keep s.size fun g hg hl => s.same g hl (by rw [(ht g hg).2]; exact hk), fun i p hp => ?_⟩, fun g hg => ?_⟩
  · obtain ⟨a', c', e, im⟩ := hv i p hp
    exact ⟨a', c', e, im.1.fr s hS, im.2⟩
  · obtain ⟨h1, h2⟩ := ht g hg
    exact ⟨Nat.lt_of_lt_of_le h1 s.size, by rw [s.tags g h1]; exact h2⟩
theorem PRow.nil (k z : Nat) (t : Tags) (h : Heap) : PRow k z t h none 0 [] := ⟨⟨[], RowS.nil h _ 1, fun i p hp => by simp at hp⟩, fun g hg => by cases hg⟩
theorem PRow.le {k z : Nat} {t : Tags} {h : Heap} {a : Option Addr} {c : Nat} {pages : List (List Int)} (r : PRow k z t h a c pages) : pages.length ≤ c := by obtain ⟨⟨vs, hr, _⟩, _⟩ := r; exact hr.le
theorem PRow.capMax {k z : Nat} {t : Tags} {h : Heap} {a : Option Addr} {c : Nat} {pages : List (List Int)} (r : PRow k z t h a c pages) : c ≤ maxLen := by obtain ⟨⟨vs, hr, _⟩, _⟩ := r; exact hr.capMax
/-- A page's slice, loaded. -/
theorem PRow.ld {k z : Nat} {t : Tags} {h : Heap} {a : Option Addr} {c : Nat} {pages : List (List Int)} (r : PRow k z t h a c pages) {i : Nat} (hi : i < pages.length) : ∃ a' c', Im .u8 t h a' pages[i] ∧
    ∀ {n : Nat} {F : Option Addr × Nat × Nat → Prop}, i < n → F (a', pages[i].length, c') → ptrW a (fun p => idxW (i : Int) n true (ldW .slice (Addr.add p (Int.toNat (i : Int) * 1)) F h)) := by
  obtain ⟨⟨vs, hr, hv⟩, ht⟩ := r
  obtain ⟨a', c', e, im⟩ := hv i _ (List.getElem?_eq_getElem hi)
  refine ⟨a', c', im.1, fun hn hF => ?_⟩
  obtain ⟨g, o, rfl, _, hc⟩ := hr.cell e
  exact ⟨⟨by omega, rfl⟩, ld_of (c := .slice) (a', pages[i].length, c') (by rw [Int.toNat_natCast, Nat.mul_one, add_mk]; exact hc) hF⟩
theorem PRow.ldc {k z : Nat} {t : Tags} {h : Heap} {a : Option Addr} {c : Nat} {pages : List (List Int)} (r : PRow k z t h a c pages) {i : Nat} (hi : i < pages.length) : ∃ a' c', Im .u8 t h a' pages[i] ∧ Cp a' pages[i].length c' ∧
    ∀ {n : Nat} {F : Option Addr × Nat × Nat → Prop}, i < n → F (a', pages[i].length, c') → ptrW a (fun p => idxW (i : Int) n true (ldW .slice (Addr.add p (Int.toNat (i : Int) * 1)) F h)) := by
  obtain ⟨⟨vs, hr, hv⟩, ht⟩ := r
  obtain ⟨a', c', e, im⟩ := hv i _ (List.getElem?_eq_getElem hi)
  refine ⟨a', c', im.1, im.2, fun hn hF => ?_⟩
  obtain ⟨g, o, rfl, _, hc⟩ := hr.cell e
  exact ⟨⟨by omega, rfl⟩, ld_of (c := .slice) (a', pages[i].length, c') (by rw [Int.toNat_natCast, Nat.mul_one, add_mk]; exact hc) hF⟩
/-- How a device's and a zone's structs are laid. -/
structure Lo where
  T : TypeId
  TZ : TypeId
  cells : Value → Int → Bool → List Value
  three : ∀ s u f, (cells s u f).length = 3
def LoP : Lo := ⟨126, 140, fun s u f => [.int .i64 u, .bool f, s], fun _ _ _ => rfl⟩
def LoR : Lo := ⟨129, 131, fun s u f => [s, .int .i64 u, .bool f], fun _ _ _ => rfl⟩
def devA (za n c : Nat) (D : Dev) : Array Value := #[.slice (some ⟨za, 0, none⟩) n c, .int .i64 (D.P : Int), .int .i64 D.fuse, .int .i64 D.ops, .bool D.down]
/-- The three cells of a zone. -/
def ZAt (L : Lo) (k : Nat) (t : Tags) (h : Heap) (arr : Array Value) (z : Nat) (Z : Zn) : Prop := ∃ a c, (∀ j, j < 3 → arr[z * 3 + j]? = (L.cells (.slice a Z.pages.length c) (Z.sure : Int) Z.fin)[j]?) ∧ PRow k z t h a c Z.pages
/-- The device whose block is b, its zones in block za; it belongs to owner k. -/
structure DR (L : Lo) (k : Nat) (t : Tags) (h : Heap) (b za c : Nat) (arr : Array Value) (D : Dev) : Prop where
  own : k ≠ 0
  blk : Blk h b (devA za D.zs.length c D) L.T
  tagB : t b = (k, 0)
  zblk : Blk h za arr L.TZ
  tagZ : t za = (k, 1)
  size : arr.size = c * 3
  le : D.zs.length ≤ c
  max : c ≤ maxLen
  zone : ∀ (z : Nat) (Z : Zn), D.zs[z]? = some Z → ZAt L k t h arr z Z
def DRep (L : Lo) (k : Nat) (t : Tags) (h : Heap) (b : Nat) (D : Dev) : Prop := ∃ za c arr, DR L k t h b za c arr D
theorem ZAt.fr {S : Nat × Nat → Prop} {L : Lo} {k z : Nat} {t t' : Tags} {h h' : Heap} {arr : Array Value} {Z : Zn} (r : ZAt L k t h arr z Z) (s : Fr S t h t' h') (hS : ∀ p : Nat × Nat, p.1 = 0 → S p) (hk : S (k, 2 + z)) : ZAt L k t' h' arr z Z := by
  obtain ⟨a, c, h1, h2⟩ := r; exact ⟨a, c, h1, h2.fr s hS hk⟩
theorem DR.fr {S : Nat × Nat → Prop} {L : Lo} {k b za c : Nat} {t t' : Tags} {h h' : Heap} {arr : Array Value} {D : Dev} (r : DR L k t h b za c arr D) (s : Fr S t h t' h') (hS : ∀ p : Nat × Nat, p.1 = 0 → S p) (hk : ∀ j, S (k, j)) : DR L k t' h' b za c arr D :=
  ⟨r.own, s.blk r.blk (by rw [r.tagB]; exact hk _), by rw [s.tags b r.blk.lt]; exact r.tagB, s.blk r.zblk (by rw [r.tagZ]; exact hk _), by rw [s.tags za r.zblk.lt]; exact r.tagZ, r.size, r.le, r.max, fun z Z hz => (r.zone z Z hz).fr s hS (hk _)⟩
theorem DR.new {L : Lo} {k b za c : Nat} {t : Tags} {h h' : Heap} {arr : Array Value} {D : Dev} (r : DR L k t h b za c arr D) (n : New h h') : DR L k t h' b za c arr D := r.fr (S := fun _ => True) (Fr.new0 n) (fun _ _ => trivial) fun _ => trivial
theorem DRep.fr {S : Nat × Nat → Prop} {L : Lo} {k b : Nat} {t t' : Tags} {h h' : Heap} {D : Dev} (r : DRep L k t h b D) (s : Fr S t h t' h') (hS : ∀ p : Nat × Nat, p.1 = 0 → S p) (hk : ∀ j, S (k, j)) : DRep L k t' h' b D := by
  obtain ⟨za, c, arr, r⟩ := r; exact ⟨za, c, arr, r.fr s hS hk⟩
theorem DRep.new {L : Lo} {k b : Nat} {t : Tags} {h h' : Heap} {D : Dev} (r : DRep L k t h b D) (n : New h h') : DRep L k t h' b D := by
  obtain ⟨za, c, arr, r⟩ := r; exact ⟨za, c, arr, r.new n⟩
/-- The cells of the device's block. -/
theorem DR.cz {L : Lo} {k b za c : Nat} {t : Tags} {h : Heap} {arr : Array Value} {D : Dev} (r : DR L k t h b za c arr D) : cellH h ((⟨b, 0, none⟩ : Addr).add 0) = some (.slice (some ⟨za, 0, none⟩) D.zs.length c) := by rw [add_mk, cellH_blk r.blk]; rfl
theorem DR.cP {L : Lo} {k b za c : Nat} {t : Tags} {h : Heap} {arr : Array Value} {D : Dev} (r : DR L k t h b za c arr D) : cellH h ((⟨b, 0, none⟩ : Addr).add 1) = some (.int .i64 (D.P : Int)) := by rw [add_mk, cellH_blk r.blk]; rfl
theorem DR.cf {L : Lo} {k b za c : Nat} {t : Tags} {h : Heap} {arr : Array Value} {D : Dev} (r : DR L k t h b za c arr D) : cellH h ((⟨b, 0, none⟩ : Addr).add 2) = some (.int .i64 D.fuse) := by rw [add_mk, cellH_blk r.blk]; rfl
theorem DR.co {L : Lo} {k b za c : Nat} {t : Tags} {h : Heap} {arr : Array Value} {D : Dev} (r : DR L k t h b za c arr D) : cellH h ((⟨b, 0, none⟩ : Addr).add 3) = some (.int .i64 D.ops) := by rw [add_mk, cellH_blk r.blk]; rfl
theorem DR.cd {L : Lo} {k b za c : Nat} {t : Tags} {h : Heap} {arr : Array Value} {D : Dev} (r : DR L k t h b za c arr D) : cellH h ((⟨b, 0, none⟩ : Addr).add 4) = some (.bool D.down) := by rw [add_mk, cellH_blk r.blk]; rfl
theorem DR.ne {L : Lo} {k b za c : Nat} {t : Tags} {h : Heap} {arr : Array Value} {D : Dev} (r : DR L k t h b za c arr D) : b ≠ za := fun e => by have h1 := r.tagB; rw [e, r.tagZ] at h1; cases h1
/-- A cell of a zone. -/
theorem DR.cell {L : Lo} {k b za c : Nat} {t : Tags} {h : Heap} {arr : Array Value} {D : Dev} (r : DR L k t h b za c arr D) {z j : Nat} {v : Value} (hv : arr[z * 3 + j]? = some v) (o : Nat) (ho : o = z * 3 + j) : cellH h ⟨za, o, none⟩ = some v := by subst ho; rw [cellH_blk r.zblk]; exact hv
/-- The device's block is told anew: its numbers. -/
theorem DR.setD {L : Lo} {k b za c : Nat} {t : Tags} {h h' : Heap} {arr : Array Value} {D D' : Dev} (r : DR L k t h b za c arr D) (hz : D'.zs = D.zs) (hb : Blk h' b (devA za D.zs.length c D') L.T) (o : Upd b h h') : DR L k t h' b za c arr D' := by
  have s : Fr (fun p => p ≠ (k, 0)) t h t h' := Fr.upd o (fun hn => hn r.tagB)
  have hS : ∀ p : Nat × Nat, p.1 = 0 → p ≠ (k, 0) := fun p hp e => by subst e; exact r.own hp
  refine ⟨r.own, by rw [hz]; exact hb, r.tagB, s.blk r.zblk (by rw [r.tagZ]; simp), r.tagZ, r.size, by rw [hz]; exact r.le, r.max, fun z Z hZ => ?_⟩
  rw [hz] at hZ
  exact (r.zone z Z hZ).fr s hS (by simp)
/-- One zone is another one: its cells, and its row. -/
theorem DR.put {S : Nat × Nat → Prop} {L : Lo} {k b za c : Nat} {t t' : Tags} {h h' : Heap} {arr arr' : Array Value} {D : Dev} (r : DR L k t h b za c arr D) {z : Nat} {Z : Zn} (s : Fr S t h t' h') (hS : ∀ p : Nat × Nat, p.1 = 0 → S p) (hb : S (k, 0)) (hz : ∀ j, j ≠ z → S (k, 2 + j))
    (hza : Blk h' za arr' L.TZ) (hsz : arr'.size = arr.size) (hsame : ∀ i, (i < z * 3 ∨ z * 3 + 3 ≤ i) → arr'[i]? = arr[i]?) (hZ : ZAt L k t' h' arr' z Z) : DR L k t' h' b za c arr' { D with zs := D.zs.set z Z } := by
  refine ⟨r.own, ?_, by rw [s.tags b r.blk.lt]; exact r.tagB, hza, by rw [s.tags za r.zblk.lt]; exact r.tagZ, by rw [hsz]; exact r.size, by simpa using r.le, r.max, fun z' Z' hz' => ?_⟩
  · have : devA za (D.zs.set z Z).length c { D with zs := D.zs.set z Z } = devA za D.zs.length c D := by simp [devA]
    rw [this]; exact s.blk r.blk (by rw [r.tagB]; exact hb)
  · by_cases e : z = z'
    · subst e
      simp [List.getElem?_set] at hz'
      obtain ⟨_, rfl⟩ := hz'; exact hZ
    · rw [List.getElem?_set_ne e] at hz'
      obtain ⟨a, d, h1, h2⟩ := r.zone z' Z' hz'
      refine ⟨a, d, fun j hj => ?_, h2.fr s hS (hz z' (Ne.symm e))⟩
      rw [hsame _ (by omega)]; exact h1 j hj
theorem DevOk.len {D : Dev} (o : DevOk D) {z : Nat} (hz : z < D.zs.length) : (D.zs[z]).pages.length ≤ 16 := by
  have := (o.zone _ (List.getElem_mem hz)).most; have := o.pages; omega
theorem tagne {k i j : Nat} (h : i ≠ j) : ((k, i) : Nat × Nat) ≠ (k, j) := fun e => h (Prod.mk.inj e).2
theorem ix_of {i n : Nat} {F : Prop} (h : i < n) (hF : F) : idxW (i : Int) n true F := ⟨⟨⟨by omega, by omega⟩, rfl⟩, hF⟩
theorem sliceBase_zero (a : Option Addr) (m : Nat) : sliceBase a 0 m 1 = a := by
  unfold sliceBase
  split
  · rfl
  · cases a with
    | none => rfl
    | some q => show some (q.add (0 * 1)) = some q; rw [Addr.add]; split <;> simp_all
theorem ap25 : apB Tryd.prog 78 25 1 24 = true := by kernel_rfl
/-- One page more. -/
theorem PRow.push {k z : Nat} {t : Tags} {h : Heap} {a a' : Option Addr} {c c' : Nat} {pages : List (List Int)} {p : List Int} (r : PRow k z t h a c pages) (hk : k ≠ 0) (im : Im .u8 t h a' p) (cp : Cp a' p.length c') (hl : pages.length ≤ 1000) {F : Option Addr → Nat → Nat → Heap → Prop}
    (hF : ∀ a2 c2 h2 t2, Fr (fun q => q ≠ (k, 2 + z)) t h t2 h2 → PRow k z t2 h2 a2 c2 (pages ++ [p]) → F a2 (pages.length + 1) c2 h2) :
    newW (.cells #[.slice a' p.length c'] 25) (fun q h' => apW Tryd.prog #[78, 78] #[.slice a pages.length c, .slice (some q) 1 1] F h') h := by
  have hS : ∀ q : Nat × Nat, q.1 = 0 → q ≠ (k, 2 + z) := fun q hq e => by subst e; exact hk hq
  obtain ⟨⟨vs, hr, hv⟩, ht⟩ := r
  have hvl := hr.len
  refine new_of fun h1 b1 n1 s1 => ?_
  have hb : (pages.length + 1) * 24 ≤ 140737488355328 := by omega
  refine ap_row ap25 (hr.new n1) (m := 1) [.slice a' p.length c'] rfl ?_ (by simp [Value.oneCell']) (by simp [maxLen]; omega) hb fun a2 c2 h2 r2 w _ => ?_
  · intro j u hu
    have hj : j = 0 := by have := (List.getElem?_eq_some_iff.1 hu).1; simp at this; omega
    subst hj
    rw [add_mk, cellH_blk b1]; simpa using hu
  have u := w.upd
  have hfr : Fr (fun q => q ≠ (k, 2 + z)) t h (lay t h.size (k, 2 + z)) h2 := by
    refine ⟨Nat.le_trans n1.size u.size, fun b hb => lay_lt hb, fun b hb hk => ?_⟩
    rw [u.same b (Nat.lt_of_lt_of_le hb n1.size) fun e => hk (ht b e.symm).2, n1.same b hb]
  refine hF a2 c2 h2 (lay t h.size (k, 2 + z)) hfr ⟨⟨_, by rw [List.length_append]; exact r2, fun i q hq => ?_⟩, fun g hg => ?_⟩
  · by_cases hi : i < pages.length
    · rw [List.getElem?_append_left hi] at hq
      obtain ⟨b, d, e, im⟩ := hv i q hq
      exact ⟨b, d, by rw [List.getElem?_append_left (by omega)]; exact e, im.1.fr hfr hS, im.2⟩
    · rw [List.getElem?_append_right (by omega)] at hq
      have hi0 : i - pages.length = 0 := by have := (List.getElem?_eq_some_iff.1 hq).1; simp at this; omega
      rw [hi0] at hq
      obtain rfl := Option.some.inj hq
      exact ⟨a', c', by rw [List.getElem?_append_right (by omega), show i - vs.length = 0 by omega]; rfl, im.fr hfr hS, cp⟩
  · rcases w with ⟨e, _, e2⟩ | ⟨n, g', e, e2, e3⟩ | ⟨rfl, rfl⟩
    · rw [e] at hg
      obtain ⟨h3, h4⟩ := ht g hg
      exact ⟨by have := hfr.size; omega, by rw [lay_lt h3]; exact h4⟩
    · rw [e] at hg; injection hg with hg; change g' = g at hg; subst hg
      exact ⟨e3, lay_ge (by omega)⟩
    · obtain ⟨h3, h4⟩ := ht g hg
      exact ⟨by have := hfr.size; omega, by rw [lay_lt h3]; exact h4⟩
/-- A beginning of a row. -/
theorem PRow.cut {k z : Nat} {t : Tags} {h : Heap} {a : Option Addr} {c : Nat} {pages : List (List Int)} (r : PRow k z t h a c pages) (m : Nat) (hm : m ≤ pages.length) : PRow k z t h a m (pages.take m) := by
  obtain ⟨⟨vs, hr, hv⟩, ht⟩ := r
  have hl : (pages.take m).length = m := by simp; omega
  refine ⟨⟨vs.take m, ?_, fun i p hp => ?_⟩, ht⟩
  · have := hr.cut m hm
    rw [Nat.mul_one] at this
    rw [hl]; exact this
  · have hi : i < m := by have := (List.getElem?_eq_some_iff.1 hp).1; omega
    rw [List.getElem?_take_of_lt hi] at hp ⊢
    exact hv i p hp
/-- A row is copied into a new one. -/
theorem PRow.copy {k z : Nat} {t : Tags} {h : Heap} {a : Option Addr} {d d' r0 : Nat} {pages : List (List Int)} (r : PRow k z t h a d pages) (hl : pages.length ≤ 1000) (hr0 : r0 < h.size) (ht0 : t r0 = (k, 2 + z)) {F : Option Addr → Nat → Nat → Heap → Prop}
    (hF : ∀ a2 c2 h2, PRow k z (lay t h.size (k, 2 + z)) h2 a2 c2 pages → New h h2 → F a2 pages.length c2 h2) :
    apW Tryd.prog #[78, 78] #[.slice (some ⟨r0, 0, none⟩) 0 0, .slice a pages.length d'] F h := by
  obtain ⟨⟨vs, hr, hv⟩, ht⟩ := r
  have hvl := hr.len
  cases hp : pages with
  | nil =>
    subst hp
    refine ap_row0 ap25 (RowS.nil' h _ 1 (some ⟨r0, 0, none⟩)) (hF _ _ _ ⟨⟨[], RowS.nil' h _ 1 _, fun i p hp => by simp at hp⟩, fun g hg => ?_⟩ (New.refl h))
    injection hg with hg; change r0 = g at hg; subst hg
    exact ⟨hr0, by rw [lay_lt hr0]; exact ht0⟩
  | cons p ps =>
    rw [← hp]
    have hpos : 0 < pages.length := by rw [hp]; simp
    obtain ⟨v0, hv0⟩ : ∃ v, vs[0]? = some v := ⟨vs[0]'(by omega), List.getElem?_eq_getElem (by omega)⟩
    obtain ⟨g, o, rfl, _, _⟩ := hr.cell hv0
    refine ap_new ap25 vs (by omega) (fun j u hu => ?_) hpos (by simp only [maxLen]; omega) (by omega) fun g2 c2 h2 r2 n2 h3 h4 => ?_
    · obtain ⟨g', o', e, _, hc⟩ := hr.cell hu
      injection e with e; injection e with e1 e2; subst e1; subst e2
      rw [add_mk]; exact hc
    refine hF _ _ _ ⟨⟨vs, r2, fun i p hp => ?_⟩, fun g' hg' => ?_⟩ n2
    · obtain ⟨a', c', e, im⟩ := hv i p hp
      exact ⟨a', c', e, im.1.fr (S := fun _ => True) (Fr.lay n2 _) (fun _ _ => trivial), im.2⟩
    · injection hg' with hg'; change g2 = g' at hg'; subst hg'
      exact ⟨h4, lay_ge h3⟩
theorem ap8 : apB Tryd.prog 25 5 1 1 = true := by kernel_rfl
/-- Bytes are copied into a new row: they are nobody's. -/
theorem bytes_copy {t : Tags} {h : Heap} {b0 : Nat} {ba : Option Addr} {bs : List Int} {n d : Nat} (hn : n = bs.length) (im : Im .u8 t h ba bs) (hl : bs.length ≤ 1000) {F : Option Addr → Nat → Nat → Heap → Prop}
    (hF : ∀ a2 c2 h2, Im .u8 (lay t h.size (0, 0)) h2 a2 bs → New h h2 → Cp a2 bs.length c2 → F a2 bs.length c2 h2) :
    apW Tryd.prog #[25, 25] #[.slice (some ⟨b0, 0, none⟩) 0 0, .slice ba n d] F h := by
  subst hn
  cases hb : bs with
  | nil => subst hb; exact ap_row0 ap8 (RowS.nil' h _ 1 (some ⟨b0, 0, none⟩)) (hF _ _ _ (Im.nil ..) (New.refl h) ⟨Nat.le_refl _, Nat.zero_le _, fun e => by cases e⟩)
  | cons p ps =>
    rw [← hb]
    obtain ⟨g, o, rfl, _⟩ := im.ar.lt' (by rw [hb]; simp)
    refine ap_new ap8 (bs.map (Value.int .u8)) (by simp) (fun j u hu => ?_) (by rw [hb]; simp) (by simp only [maxLen]; omega) (by omega) fun g2 c2 h2 r2 n2 h3 h4 => hF _ _ _ ⟨r2.ar, fun _ b hb' => ?_⟩ n2 ⟨r2.le, r2.capMax, fun e => by cases e⟩
    · rw [List.getElem?_map] at hu
      cases hy : bs[j]? with
      | none => rw [hy] at hu; cases hu
      | some y =>
        rw [hy] at hu; injection hu with hu; subst hu
        obtain ⟨b', o', e, _, hc⟩ := im.ar j y hy
        injection e with e; injection e with e1 e2; subst e1; subst e2
        rw [add_mk]; exact hc
    · injection hb' with hb'; change g2 = b at hb'; subst hb'
      rw [lay_ge h3]
/-- A zone of the program's device. -/
theorem DR.zP {k b za c : Nat} {t : Tags} {h : Heap} {arr : Array Value} {D : Dev} (r : DR LoP k t h b za c arr D) {z : Nat} (hz : z < D.zs.length) :
    ∃ a d, PRow k z t h a d D.zs[z].pages ∧ arr[z * 3]? = some (.int .i64 (D.zs[z].sure : Int)) ∧ arr[z * 3 + 1]? = some (.bool D.zs[z].fin) ∧ arr[z * 3 + 2]? = some (.slice a D.zs[z].pages.length d) := by
  obtain ⟨a, d, h1, h2⟩ := r.zone z _ (List.getElem?_eq_getElem hz)
  exact ⟨a, d, h2, h1 0 (by omega), h1 1 (by omega), h1 2 (by omega)⟩
/-- A zone of the reference's device. -/
theorem DR.zR {k b za c : Nat} {t : Tags} {h : Heap} {arr : Array Value} {D : Dev} (r : DR LoR k t h b za c arr D) {z : Nat} (hz : z < D.zs.length) :
    ∃ a d, PRow k z t h a d D.zs[z].pages ∧ arr[z * 3]? = some (.slice a D.zs[z].pages.length d) ∧ arr[z * 3 + 1]? = some (.int .i64 (D.zs[z].sure : Int)) ∧ arr[z * 3 + 2]? = some (.bool D.zs[z].fin) := by
  obtain ⟨a, d, h1, h2⟩ := r.zone z _ (List.getElem?_eq_getElem hz)
  exact ⟨a, d, h2, h1 0 (by omega), h1 1 (by omega), h1 2 (by omega)⟩
/-- One cell of a zone's three is another one. -/
theorem set3 {arr : Array Value} {z o n : Nat} {v : Value} (ho : o < 3) (hz : z * 3 + 3 ≤ arr.size) (hn : n = z * 3 + o) :
    (arr.setIfInBounds n v).size = arr.size ∧ (∀ i, (i < z * 3 ∨ z * 3 + 3 ≤ i) → (arr.setIfInBounds n v)[i]? = arr[i]?) ∧ (arr.setIfInBounds n v)[z * 3 + o]? = some v ∧ ∀ j, j < 3 → j ≠ o → (arr.setIfInBounds n v)[z * 3 + j]? = arr[z * 3 + j]? := by
  subst hn
  refine ⟨by simp, fun i hi => ?_, ?_, fun j hj hne => ?_⟩
  · rw [Array.getElem?_setIfInBounds_ne (by omega)]
  · rw [Array.getElem?_setIfInBounds_self_of_lt (by omega)]
  · rw [Array.getElem?_setIfInBounds_ne (by omega)]
end Go.Proofs.YtgohecjnjadnpaaDoor.Zns
