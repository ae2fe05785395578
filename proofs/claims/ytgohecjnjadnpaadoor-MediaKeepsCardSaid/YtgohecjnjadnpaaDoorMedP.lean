/-
  Media as plain data: what is put, got, scanned. Plain laws.
-/
import Derived.Test.YtgohecjnjadnpaaDoorHdP
import Derived.Test.YtgohecjnjadnpaaDoorZns
import Derived.Test.YtgohecjnjadnpaaDoorGeo
namespace Go.Proofs.YtgohecjnjadnpaaDoor.Med
open Go.Pl Go.Proofs.YtgohecjnjadnpaaDoor.Byts Go.Proofs.YtgohecjnjadnpaaDoor.Head Go.Proofs.YtgohecjnjadnpaaDoor.HdP Go.Proofs.YtgohecjnjadnpaaDoor.Zns Go.Proofs.YtgohecjnjadnpaaDoor.Geo
abbrev hd0 : Hd := (0, 0, 0, 0)
/-- What Put does: the device, the address, the code. -/
def putM (z p : Int) (D : Dev) (zone : Int) (x : Hd) (bs : List Int) : Dev × Int × Int :=
  if ofF z p zone 0 = 0 then (D, 0, 1) else if (bytesF x bs).2 ≠ 0 then (D, 0, (bytesF x bs).2)
  else if (D.append zone (bytesF x bs).1).2.2 ≠ 0 then ((D.append zone (bytesF x bs).1).1, 0, (D.append zone (bytesF x bs).1).2.2)
  else ((D.append zone (bytesF x bs).1).1, ofF z p zone (D.append zone (bytesF x bs).1).2.1, 0)
/-- What Get tells: the head, the block, the code. -/
def getM (z p : Int) (D : Dev) (a : Int) : Hd × List Int × Int :=
  if (atF z p a).2.2 = false then (hd0, [], 1)
  else if (D.read (atF z p a).1 (atF z p a).2.1).2 ≠ 0 then (hd0, [], (D.read (atF z p a).1 (atF z p a).2.1).2)
  else readF (D.read (atF z p a).1 (atF z p a).2.1).1
abbrev Pg := Int × Hd
/-- What Scan makes of an address. -/
def scan1 (z p : Int) (D : Dev) (a : Int) : List Pg := if (getM z p D a).2.2 = 0 then [(a, (getM z p D a).1)] else []
/-- The addresses of all pages that were written, of one zone. -/
def addrs (p : Int) (D : Dev) (zone : Nat) : List Int := (List.range (D.point (zone : Int))).map fun (i : Nat) => (zone : Int) * p + i + 1
def alls (z p : Int) (D : Dev) : List Int := (List.range (z - 2).toNat).flatMap (addrs p D)
def scanM (z p : Int) (D : Dev) : List Pg := (alls z p D).flatMap (scan1 z p D)
structure GOk (z p : Int) (D : Dev) : Prop where
  zr : 11 ≤ z ∧ z ≤ 24
  pr : 4 ≤ p ∧ p ≤ 16
  zs : (D.zs.length : Int) = z
  P : (D.P : Int) = p
  ok : DevOk D
theorem of_at {z p : Int} (hp : 4 ≤ p ∧ p ≤ 16) {zone page : Int} (h : (0 ≤ zone ∧ zone ≤ z - 3) ∧ 0 ≤ page ∧ page ≤ p - 1) : ofF z p zone page = zone * p + page + 1 ∧ atF z p (zone * p + page + 1) = (zone, page, true) := by
  have e1 : ofF z p zone page = zone * p + page + 1 := if_pos h
  have h0 : 0 ≤ zone * p := Int.mul_nonneg h.1.1 (by omega)
  have h1 : (zone + 1) * p ≤ (z - 2) * p := Int.mul_le_mul_of_nonneg_right (by omega) (by omega)
  rw [Int.add_mul, Int.one_mul] at h1
  refine ⟨e1, ?_⟩
  unfold atF
  rw [if_neg (by omega)]
  have e2 : zone * p + page + 1 - 1 = page + p * zone := by rw [Int.mul_comm p zone]; omega
  rw [e2, Int.add_mul_ediv_left _ _ (by omega), Int.add_mul_emod_self_left, Int.ediv_eq_zero_of_lt h.2.1 (by omega), Int.emod_eq_of_lt h.2.1 (by omega), Int.zero_add]
theorem at_of' {z p : Int} (hp : 4 ≤ p ∧ p ≤ 16) {a : Int} (ha : 0 ≤ a) (h : (atF z p a).2.2 = true) : (0 ≤ (atF z p a).1 ∧ (atF z p a).1 ≤ z - 3) ∧ (0 ≤ (atF z p a).2.1 ∧ (atF z p a).2.1 ≤ p - 1) ∧ a = (atF z p a).1 * p + (atF z p a).2.1 + 1 := by
  unfold atF at h ⊢
  by_cases hc : a = 0 ∨ (z - 2) * p < a
  · rw [if_pos hc] at h; cases h
  · rw [if_neg hc]
    simp only []
    have h1 := Int.emod_add_mul_ediv (a - 1) p
    have h2 := Int.emod_nonneg (a - 1) (show p ≠ 0 by omega)
    have h3 := Int.emod_lt_of_pos (a - 1) (show 0 < p by omega)
    have h4 : 0 ≤ (a - 1) / p := Int.ediv_nonneg (by omega) (by omega)
    have h5 : (a - 1) / p < z - 2 := Int.ediv_lt_of_lt_mul (by omega) (by omega)
    refine ⟨⟨h4, by omega⟩, ⟨h2, by omega⟩, ?_⟩
    rw [Int.mul_comm]; omega
/-- What is told without an error was written. -/
theorem read_lt {D : Dev} {n q : Int} (h : (D.read n q).2 = 0) : D.there n = true ∧ 0 ≤ q ∧ q < D.point n := by
  unfold Dev.read at h
  split at h
  · cases h
  · split at h
    · cases h
    · rename_i h1
      split at h
      · cases h
      · rename_i h2
        unfold Dev.point
        refine ⟨?_, by omega, by omega⟩
        cases ht : D.there n with
        | true => rfl
        | false => exact (h1 (.inl ht)).elim
theorem mem_alls {z p : Int} {D : Dev} (a : Int) : a ∈ alls z p D ↔ ∃ zn i : Nat, (zn : Int) < z - 2 ∧ i < D.point (zn : Int) ∧ a = (zn : Int) * p + i + 1 := by
  unfold alls addrs
  rw [List.mem_flatMap]
  constructor
  · rintro ⟨zn, hz, ha⟩
    rw [List.mem_range] at hz
    obtain ⟨i, hi, rfl⟩ := List.mem_map.1 ha
    rw [List.mem_range] at hi
    exact ⟨zn, i, by omega, hi, rfl⟩
  · rintro ⟨zn, i, hz, hi, rfl⟩
    exact ⟨zn, by rw [List.mem_range]; omega, List.mem_map.2 ⟨i, by rw [List.mem_range]; exact hi, rfl⟩⟩
theorem GOk.pt {z p : Int} {D : Dev} (g : GOk z p D) (n : Int) : (D.point n : Int) ≤ p := by
  have := (g.ok.at_ n).most
  have := g.P
  unfold Dev.point; omega
theorem alls_up {z p : Int} {D : Dev} (g : GOk z p D) : (alls z p D).Pairwise (· < ·) := by
  have hp := g.pr
  unfold alls
  rw [List.pairwise_flatMap]
  refine ⟨fun zn _ => ?_, ?_⟩
  · unfold addrs
    rw [List.pairwise_map]
    exact List.Pairwise.imp (fun {a b} hab => by omega) List.pairwise_lt_range
  · refine List.Pairwise.imp (fun {a b} hab x hx y hy => ?_) List.pairwise_lt_range
    obtain ⟨i, hi, rfl⟩ := List.mem_map.1 hx
    obtain ⟨j, hj, rfl⟩ := List.mem_map.1 hy
    rw [List.mem_range] at hi hj
    have h1 := g.pt (a : Int)
    have h2 : ((a : Int) + 1) * p ≤ (b : Int) * p := Int.mul_le_mul_of_nonneg_right (by omega) (by omega)
    rw [Int.add_mul, Int.one_mul] at h2
    omega
theorem mem_scan {z p : Int} {D : Dev} (g : GOk z p D) (y : Pg) : y ∈ scanM z p D ↔ 0 ≤ y.1 ∧ (getM z p D y.1).2.2 = 0 ∧ y.2 = (getM z p D y.1).1 := by
  have hp := g.pr
  unfold scanM
  rw [List.mem_flatMap]
  have h1 : ∀ a, y ∈ scan1 z p D a ↔ (getM z p D a).2.2 = 0 ∧ y = (a, (getM z p D a).1) := fun a => by
    unfold scan1
    by_cases h : (getM z p D a).2.2 = 0
    · rw [if_pos h, List.mem_singleton]; exact ⟨fun e => ⟨h, e⟩, fun e => e.2⟩
    · rw [if_neg h]; exact ⟨fun e => (by cases e), fun e => (h e.1).elim⟩
  constructor
  · rintro ⟨a, ha, hy⟩
    obtain ⟨e, rfl⟩ := (h1 a).1 hy
    obtain ⟨zn, i, _, _, rfl⟩ := (mem_alls a).1 ha
    have : 0 ≤ (zn : Int) * p := Int.mul_nonneg (by omega) (by omega)
    exact ⟨by omega, e, rfl⟩
  · rintro ⟨h0, e, e2⟩
    refine ⟨y.1, ?_, (h1 _).2 ⟨e, by rw [← e2]⟩⟩
    rw [mem_alls]
    have e' := e
    unfold getM at e'
    split at e'
    · cases e'
    · rename_i h3
      have h3 : (atF z p y.1).2.2 = true := by simpa using h3
      obtain ⟨k1, k2, k3⟩ := at_of' hp h0 h3
      split at e'
      · rename_i h4; exact (h4 e').elim
      · rename_i h4
        obtain ⟨_, k4, k5⟩ := read_lt (Classical.not_not.1 h4)
        refine ⟨(atF z p y.1).1.toNat, (atF z p y.1).2.1.toNat, by omega, ?_, ?_⟩
        · rw [Int.toNat_of_nonneg k1.1]; omega
        · rw [Int.toNat_of_nonneg k1.1, Int.toNat_of_nonneg k2.1]; exact k3
theorem scan_up {z p : Int} {D : Dev} (g : GOk z p D) : (scanM z p D).Pairwise fun a b => a.1 < b.1 := by
  unfold scanM
  rw [List.pairwise_flatMap]
  have h1 : ∀ a x, x ∈ scan1 z p D a → x.1 = a := fun a x hx => by
    unfold scan1 at hx
    split at hx
    · rw [List.mem_singleton.1 hx]
    · cases hx
  refine ⟨fun a _ => ?_, List.Pairwise.imp (fun {a b} hab x hx y hy => by rw [h1 a x hx, h1 b y hy]; exact hab) (alls_up g)⟩
  unfold scan1
  split
  · exact List.pairwise_singleton _ _
  · exact List.Pairwise.nil
theorem pg_ext {l k : List Pg} (h1 : l.Pairwise fun a b => a.1 < b.1) (h2 : k.Pairwise fun a b => a.1 < b.1) (h : ∀ y, y ∈ l ↔ y ∈ k) : l = k := by
  have nd : ∀ {l : List Pg}, (l.Pairwise fun a b => a.1 < b.1) → l.Nodup := fun hl => hl.imp fun {a b} hab e => by rw [e] at hab; omega
  refine List.Perm.eq_of_pairwise (le := fun a b => a.1 ≤ b.1 ∧ (a.1 = b.1 → a = b)) (fun a b _ _ g1 g2 => g1.2 (by omega)) (h1.imp fun hab => ⟨by omega, fun e => by omega⟩) (h2.imp fun hab => ⟨by omega, fun e => by omega⟩) ((List.perm_ext_iff_of_nodup (nd h1) (nd h2)).2 h)
/- A PAGE THAT IS PUT. -/
theorem read_ext {D E : Dev} {n q : Int} (h1 : E.down = D.down) (h2 : E.there n = D.there n) (h3 : E.P = D.P) (h4 : E.at_ n = D.at_ n) : E.read n q = D.read n q := by unfold Dev.read; rw [h1, h2, h3, h4]
theorem getM_ext {z p : Int} {D E : Dev} {a : Int} (h : E.read (atF z p a).1 (atF z p a).2.1 = D.read (atF z p a).1 (atF z p a).2.1) : getM z p E a = getM z p D a := by unfold getM; rw [h]
theorem scan_ext {z p : Int} {D E : Dev} (gD : GOk z p D) (gE : GOk z p E) (h : ∀ a, 0 ≤ a → getM z p E a = getM z p D a) : scanM z p E = scanM z p D :=
  pg_ext (scan_up gE) (scan_up gD) fun y => by
    rw [mem_scan gE, mem_scan gD]
    constructor
    · rintro ⟨h0, h1, h2⟩; rw [h _ h0] at h1 h2; exact ⟨h0, h1, h2⟩
    · rintro ⟨h0, h1, h2⟩; rw [h _ h0]; exact ⟨h0, h1, h2⟩
/-- What is refused changes nothing, where the power is there and no fuse burns. -/
theorem put_no {z p : Int} {D : Dev} (hd : D.down = false) (hf : D.fuse ≠ 0) {zone : Int} {x : Hd} {bs : List Int} (h : (putM z p D zone x bs).2.2 ≠ 0) : (putM z p D zone x bs).1 = D := by
  unfold putM at h ⊢
  split
  · rfl
  · rename_i h1
    rw [if_neg h1] at h
    split
    · rfl
    · rename_i h2
      rw [if_neg h2] at h
      split
      · rename_i h3
        unfold Dev.append at h3 ⊢
        simp only [] at h3 ⊢
        split
        · rename_i h4
          show (D.doing _).1 = D
          unfold Dev.doing at h4 ⊢
          rw [if_neg (by rw [hd]; simp)] at h4 ⊢
          split
          · rfl
          · rename_i h5
            rw [if_neg h5, if_neg hf] at h4
            exact (h4 rfl).elim
        · rename_i h4
          rw [if_neg h4] at h3
          exact (h3 rfl).elim
      · rename_i h3
        rw [if_neg h3] at h
        exact (h rfl).elim
theorem at_setZ {E : Dev} {n : Int} {Z : Zn} (hn : E.there n = true) (z : Int) : (E.setZ n Z).at_ z = if z = n then Z else E.at_ z := by
  obtain ⟨m, rfl, hm⟩ := there_nat hn
  have hth : (E.setZ (m : Int) Z).there z = E.there z := by unfold Dev.there; simp [Dev.setZ]
  cases ht : E.there z with
  | false => rw [at_none (hth.trans ht), at_none ht, if_neg (by intro e; subst e; rw [hn] at ht; cases ht)]
  | true =>
    obtain ⟨k, rfl, hk⟩ := there_nat ht
    have hk2 : k < (E.setZ (m : Int) Z).zs.length := by simp [Dev.setZ]; exact hk
    rw [at_of hk2, at_of hk]
    by_cases e : k = m
    · subst e; simp [Dev.setZ]
    · rw [if_neg (by omega)]
      simp only [Dev.setZ, Int.toNat_natCast]
      exact List.getElem_set_ne (Ne.symm e) _
theorem app_facts {D : Dev} (hP : 1 ≤ D.P) {n : Int} {b : List Int} (h : (D.append n b).2.2 = 0) : D.there n = true ∧ b.length = 33 ∧ D.down = false ∧ ((D.at_ n).pages.length ≠ D.P) ∧ (D.append n b).2.1 = D.point n ∧ (D.append n b).1.down = false ∧ (D.append n b).1.P = D.P ∧ (D.append n b).1.zs.length = D.zs.length ∧
    (∀ m, (D.append n b).1.at_ m = if m = n then { D.at_ n with pages := (D.at_ n).pages ++ [b] } else D.at_ m) := by
  unfold Dev.append at h ⊢
  simp only [] at h ⊢
  by_cases hc : (D.doing (D.appendE n b)).2 ≠ 0
  · rw [if_pos hc] at h; exact (hc h).elim
  · rw [if_neg hc]
    have hc := Classical.not_not.1 hc
    obtain ⟨he, hd, hf, e1⟩ := doing_ok hc
    unfold Dev.appendE at he
    split at he
    · cases he
    rename_i h1
    split at he
    · cases he
    rename_i h2
    have ht : D.there n = true := by
      cases hh : D.there n with
      | true => rfl
      | false => exact (h1 (.inl hh)).elim
    have hl : b.length = 33 := Classical.not_not.1 fun hh => h1 (.inr hh)
    refine ⟨ht, hl, hd, fun e => h2 ?_, rfl, ?_, ?_, ?_, fun m => ?_⟩
    · unfold Dev.state
      rw [if_neg (by omega), if_pos (.inr e)]
    · rw [e1]; exact hd
    · rw [e1]; rfl
    · rw [e1]; simp [Dev.setZ]
    · rw [e1]
      have e2 : ∀ m, ({ D with fuse := max (D.fuse - 1) (-1), ops := IntKind.wrap .i64 (D.ops + 1) } : Dev).at_ m = D.at_ m := fun m => rfl
      have := at_setZ (E := { D with fuse := max (D.fuse - 1) (-1), ops := IntKind.wrap .i64 (D.ops + 1) }) (n := n) (Z := { D.at_ n with pages := (D.at_ n).pages ++ [b] }) ht m
      rw [this, e2]
theorem put_cases {z p : Int} {D : Dev} {zone : Int} {x : Hd} {bs : List Int} (h : (putM z p D zone x bs).2.2 = 0) : (0 ≤ zone ∧ zone ≤ z - 3) ∧ isR x = true ∧ bs.length = 16 ∧ (D.append zone (pageL x bs)).2.2 = 0 ∧ (putM z p D zone x bs).1 = (D.append zone (pageL x bs)).1 ∧ (putM z p D zone x bs).2.1 = ofF z p zone (D.append zone (pageL x bs)).2.1 := by
  unfold putM at h ⊢
  split at h
  · cases h
  rename_i h1
  split at h
  · rename_i h2; exact (h2 h).elim
  rename_i h2
  rcases bytesF_cases x bs with ⟨_, hr, hl, eb⟩ | ⟨hb, _⟩
  rotate_left
  · exact (h2 hb).elim
  rw [eb] at h ⊢
  split at h
  · rename_i h3; exact (h3 h).elim
  rename_i h3
  have h3 := Classical.not_not.1 h3
  rw [if_neg h1, if_neg (by simp), if_neg (by simpa using h3)]
  refine ⟨?_, hr, hl, h3, rfl, rfl⟩
  unfold ofF at h1
  split at h1
  · rename_i h4; exact h4.1
  · exact (h1 rfl).elim
theorem put_yes {z p : Int} {D : Dev} (g : GOk z p D) {zone : Int} {x : Hd} {bs : List Int} (hx : HdOk x) (hb : Byt bs) (h : (putM z p D zone x bs).2.2 = 0) :
    GOk z p (putM z p D zone x bs).1 ∧ 0 ≤ (putM z p D zone x bs).2.1 ∧ getM z p (putM z p D zone x bs).1 (putM z p D zone x bs).2.1 = (x, bs, 0) ∧ (getM z p D (putM z p D zone x bs).2.1).2.2 ≠ 0 ∧ ∀ c, 0 ≤ c → c ≠ (putM z p D zone x bs).2.1 → getM z p (putM z p D zone x bs).1 c = getM z p D c := by
  obtain ⟨hzn, hr, hl, ha, e1, e2⟩ := put_cases h
  have hP := g.ok.pages
  obtain ⟨f1, f2, f3, f4, f5, f6, f7, f8, f9⟩ := app_facts hP.1 ha
  have hoE := g.ok.append zone (pageL_byt hx hb)
  rw [e1, e2, f5]
  generalize hE : (D.append zone (pageL x bs)).1 = E at *
  have hp := g.pr
  have hz := g.zr
  have hgP := g.P
  have hmo := (g.ok.at_ zone).most
  have hpt : D.point zone = (D.at_ zone).pages.length := rfl
  have gE : GOk z p E := ⟨g.zr, g.pr, by rw [f8]; exact g.zs, by rw [f7]; exact g.P, hoE⟩
  have hth : ∀ n, E.there n = D.there n := fun n => by unfold Dev.there; rw [f8]
  obtain ⟨oa, at1⟩ := of_at (z := z) hp (zone := zone) (page := (D.point zone : Int)) ⟨hzn, by omega, by omega⟩
  have h0 : 0 ≤ zone * p := Int.mul_nonneg hzn.1 (by omega)
  rw [oa]
  refine ⟨gE, by omega, ?_, ?_, fun c hc hne => ?_⟩
  · unfold getM
    rw [at1]
    simp only []
    have hrd : E.read zone (D.point zone : Int) = (pageL x bs, 0) := by
      unfold Dev.read
      have hEa : E.at_ zone = { D.at_ zone with pages := (D.at_ zone).pages ++ [pageL x bs] } := by rw [f9, if_pos rfl]
      rw [f6, hth, f1, f7, hEa]
      have hg : ((D.at_ zone).pages ++ [pageL x bs]).getD (Int.toNat (D.point zone : Int)) [] = pageL x bs := by
        rw [Int.toNat_natCast, hpt, List.getD_eq_getElem?_getD, List.getElem?_append_right (Nat.le_refl _)]; simp
      simp only [hg]
      rw [if_neg (by simp), if_neg (by simp; omega), if_neg (by simp; omega), if_neg (by rw [f2]; simp)]
    rw [hrd, if_neg (by simp), if_neg (by simp)]
    exact read_page hx hl hr
  · unfold getM
    rw [at1]
    simp only []
    have hrd : (D.read zone (D.point zone : Int)).2 = 8 := by
      unfold Dev.read
      rw [f3, f1]
      rw [if_neg (by simp), if_neg (by simp; omega), if_pos (by rw [hpt]; omega)]
    rw [hrd, if_neg (by simp), if_pos (by simp)]
    simp
  · by_cases hat : (atF z p c).2.2 = true
    · refine getM_ext ?_
      obtain ⟨k1, k2, k3⟩ := at_of' hp hc hat
      generalize (atF z p c).1 = n at *
      generalize (atF z p c).2.1 = q at *
      by_cases hn : n = zone
      · subst hn
        have hq : q ≠ (D.point n : Int) := fun e => hne (by rw [k3, e])
        have hpt : D.point n = (D.at_ n).pages.length := rfl
        unfold Dev.read
        have hEa : E.at_ n = { D.at_ n with pages := (D.at_ n).pages ++ [pageL x bs] } := by rw [f9, if_pos rfl]
        rw [f6, f3, hth, f7, hEa]
        simp only [List.length_append, List.length_singleton]
        by_cases hlt : q < (D.point n : Int)
        · have hg : ((D.at_ n).pages ++ [pageL x bs]).getD q.toNat [] = (D.at_ n).pages.getD q.toNat [] := by
            rw [List.getD_eq_getElem?_getD, List.getD_eq_getElem?_getD, List.getElem?_append_left (by omega)]
          have e1 : ¬ q ≥ (((D.at_ n).pages.length + 1 : Nat) : Int) := by omega
          have e2 : ¬ q ≥ ((D.at_ n).pages.length : Int) := by omega
          simp only [hg, e1, e2, if_false]
        · have e1 : q ≥ (((D.at_ n).pages.length + 1 : Nat) : Int) := by omega
          have e2 : q ≥ ((D.at_ n).pages.length : Int) := by omega
          simp only [e1, e2, if_true]
      · exact read_ext (by rw [f6, f3]) (hth n) f7 (by rw [f9, if_neg hn])
    · have hat : (atF z p c).2.2 = false := by simpa using hat
      unfold getM
      rw [if_pos hat, if_pos hat]
/- THE PLACE OF A PAGE. -/
def lo (a : Int) (l : List Pg) : List Pg := l.filter fun q => decide (q.1 < a)
def hi (a : Int) (l : List Pg) : List Pg := l.filter fun q => decide (a < q.1)
def wantP (ok : Bool) (y : Pg) (l : List Pg) : List Pg := if ok = true then lo y.1 l ++ (if hi y.1 l = [] then [] else y :: hi y.1 l) else l
/-- Is the page put ahead of the next one? -/
def aheadP (ok : Bool) (y : Pg) (want : List Pg) (q : Pg) : Bool := ok && (match want.getLast? with | none => decide (y.1 < q.1) | some z => decide (z.1 < y.1) && decide (y.1 < q.1))
def endP (ok : Bool) (y : Pg) (want : List Pg) : Bool := ok && (match want.getLast? with | none => true | some z => decide (z.1 < y.1))
theorem wantP_step {ok : Bool} {y : Pg} {l : List Pg} {q : Pg} (hup : (l ++ [q]).Pairwise fun a b => a.1 < b.1) (hne : ∀ x ∈ l ++ [q], x.1 ≠ y.1) : wantP ok y (l ++ [q]) = (if aheadP ok y (wantP ok y l) q = true then wantP ok y l ++ [y] else wantP ok y l) ++ [q] := by
  cases ok with
  | false => simp [wantP, aheadP]
  | true =>
    have hq := hne q (by simp)
    have hlt : ∀ x ∈ l, x.1 < q.1 := fun x hx => (List.pairwise_append.1 hup).2.2 x hx q (by simp)
    unfold wantP
    simp only [if_true]
    have elo : lo y.1 (l ++ [q]) = lo y.1 l ++ if q.1 < y.1 then [q] else [] := by
      unfold lo
      rw [List.filter_append]
      congr 1
      by_cases h : q.1 < y.1 <;> simp [h]
    have ehi : hi y.1 (l ++ [q]) = hi y.1 l ++ if y.1 < q.1 then [q] else [] := by
      unfold hi
      rw [List.filter_append]
      congr 1
      by_cases h : y.1 < q.1 <;> simp [h]
    rw [elo, ehi]
    by_cases hc : q.1 < y.1
    · have hh : hi y.1 l = [] := by
        unfold hi
        rw [List.filter_eq_nil_iff]
        intro x hx
        have := hlt x hx
        simp; omega
      have ha : aheadP true y (lo y.1 l ++ if hi y.1 l = [] then [] else y :: hi y.1 l) q = false := by
        unfold aheadP
        rw [decide_eq_false (show ¬ y.1 < q.1 by omega)]
        split <;> simp
      rw [if_pos hc, if_neg (show ¬ y.1 < q.1 by omega), hh]
      rw [hh] at ha
      simp only [if_true, List.append_nil] at ha ⊢
      rw [ha]; simp
    · rw [if_neg hc, if_pos (show y.1 < q.1 by omega), List.append_nil]
      by_cases hh : hi y.1 l = []
      · have ha : aheadP true y (lo y.1 l) q = true := by
          unfold aheadP
          cases hg : (lo y.1 l).getLast? with
          | none => simp; omega
          | some z =>
            have hz := List.mem_of_getLast? hg
            unfold lo at hz
            rw [List.mem_filter] at hz
            have := of_decide_eq_true hz.2
            simp; omega
        rw [hh]
        simp only [if_true, List.append_nil, List.nil_append, ha]
        rw [if_neg (by simp)]; simp
      · have hl2 : (lo y.1 l ++ y :: hi y.1 l).getLast? = (hi y.1 l).getLast? := by
          rw [List.getLast?_append]
          cases hg : (hi y.1 l).getLast? with
          | none => exact (hh (List.getLast?_eq_none_iff.1 hg)).elim
          | some z => rw [List.getLast?_cons, hg]; rfl
        have ha : aheadP true y (lo y.1 l ++ y :: hi y.1 l) q = false := by
          unfold aheadP
          rw [hl2]
          cases hg : (hi y.1 l).getLast? with
          | none => exact (hh (List.getLast?_eq_none_iff.1 hg)).elim
          | some z =>
            have hz := List.mem_of_getLast? hg
            unfold hi at hz
            rw [List.mem_filter] at hz
            have := of_decide_eq_true hz.2
            simp; omega
        rw [if_neg hh, if_neg (by simp), ha]
        simp
theorem wantP_end (ok : Bool) (y : Pg) (l : List Pg) : (if endP ok y (wantP ok y l) = true then wantP ok y l ++ [y] else wantP ok y l) = if ok = true then lo y.1 l ++ [y] ++ hi y.1 l else l := by
  cases ok with
  | false => simp [wantP, endP]
  | true =>
    unfold wantP
    simp only [if_true]
    by_cases hh : hi y.1 l = []
    · have ha : endP true y (lo y.1 l) = true := by
        unfold endP
        cases hg : (lo y.1 l).getLast? with
        | none => rfl
        | some z =>
          have hz := List.mem_of_getLast? hg
          unfold lo at hz
          rw [List.mem_filter] at hz
          have := of_decide_eq_true hz.2
          simp; omega
      rw [hh]
      simp only [if_true, List.append_nil, ha]
    · have hl2 : (lo y.1 l ++ y :: hi y.1 l).getLast? = (hi y.1 l).getLast? := by
        rw [List.getLast?_append]
        cases hg : (hi y.1 l).getLast? with
        | none => exact (hh (List.getLast?_eq_none_iff.1 hg)).elim
        | some z => rw [List.getLast?_cons, hg]; rfl
      have ha : endP true y (lo y.1 l ++ y :: hi y.1 l) = false := by
        unfold endP
        rw [hl2]
        cases hg : (hi y.1 l).getLast? with
        | none => exact (hh (List.getLast?_eq_none_iff.1 hg)).elim
        | some z =>
          have hz := List.mem_of_getLast? hg
          unfold hi at hz
          rw [List.mem_filter] at hz
          have := of_decide_eq_true hz.2
          simp; omega
      rw [if_neg hh, ha]
      simp
theorem scan_put {z p : Int} {D : Dev} (g : GOk z p D) (hd : D.down = false) (hf : D.fuse ≠ 0) {zone : Int} {x : Hd} {bs : List Int} (hx : HdOk x) (hb : Byt bs) :
    (∀ q ∈ scanM z p D, (putM z p D zone x bs).2.2 = 0 → q.1 ≠ (putM z p D zone x bs).2.1) ∧
    scanM z p (putM z p D zone x bs).1 = if decide ((putM z p D zone x bs).2.2 = 0) = true then lo (putM z p D zone x bs).2.1 (scanM z p D) ++ [((putM z p D zone x bs).2.1, x)] ++ hi (putM z p D zone x bs).2.1 (scanM z p D) else scanM z p D := by
  by_cases h : (putM z p D zone x bs).2.2 = 0
  · obtain ⟨gE, h0, h1, h2, h3⟩ := put_yes g hx hb h
    have hno : ∀ q ∈ scanM z p D, q.1 ≠ (putM z p D zone x bs).2.1 := fun q hq e => h2 (by rw [← e]; exact ((mem_scan g q).1 hq).2.1)
    refine ⟨fun q hq _ => hno q hq, ?_⟩
    rw [if_pos (decide_eq_true h)]
    generalize (putM z p D zone x bs).1 = E at *
    generalize (putM z p D zone x bs).2.1 = a at *
    have hu := scan_up g
    refine pg_ext (scan_up gE) ?_ fun y => ?_
    · rw [List.append_assoc]
      unfold lo hi
      refine List.pairwise_append.2 ⟨List.Pairwise.sublist List.filter_sublist hu, List.pairwise_append.2 ⟨List.pairwise_singleton _ _, List.Pairwise.sublist List.filter_sublist hu, fun u hu v hv => ?_⟩, fun u hu v hv => ?_⟩
      · rw [List.mem_singleton.1 hu]; exact of_decide_eq_true (List.mem_filter.1 hv).2
      · have h4 := of_decide_eq_true (List.mem_filter.1 hu).2
        rcases List.mem_append.1 hv with hv | hv
        · rw [List.mem_singleton.1 hv]; exact h4
        · have := of_decide_eq_true (List.mem_filter.1 hv).2; omega
    · rw [mem_scan gE, List.mem_append, List.mem_append, List.mem_singleton]
      unfold lo hi
      rw [List.mem_filter, List.mem_filter, mem_scan g, decide_eq_true_iff, decide_eq_true_iff]
      by_cases hy : y.1 = a
      · constructor
        · rintro ⟨k0, k1, k2⟩
          refine .inl (.inr ?_)
          rw [hy, h1] at k2
          exact Prod.ext hy k2
        · rintro ((⟨k, _⟩ | k) | ⟨k, _⟩)
          · rw [hy] at k; exact (h2 k.2.1).elim
          · rw [k]; exact ⟨h0, by rw [h1], by rw [h1]⟩
          · rw [hy] at k; exact (h2 k.2.1).elim
      · constructor
        · rintro ⟨k0, k1, k2⟩
          rw [h3 _ k0 hy] at k1 k2
          by_cases hl : y.1 < a
          · exact .inl (.inl ⟨⟨k0, k1, k2⟩, hl⟩)
          · exact .inr ⟨⟨k0, k1, k2⟩, by omega⟩
        · rintro ((⟨⟨k0, k1, k2⟩, _⟩ | k) | ⟨⟨k0, k1, k2⟩, _⟩)
          · rw [h3 _ k0 hy]; exact ⟨k0, k1, k2⟩
          · exact (hy (by rw [k])).elim
          · rw [h3 _ k0 hy]; exact ⟨k0, k1, k2⟩
  · refine ⟨fun _ _ e => (h e).elim, ?_⟩
    rw [if_neg (by simpa using h), put_no hd hf h]
end Go.Proofs.YtgohecjnjadnpaaDoor.Med
