/-
  Lemmas for RankNames: SfP, Fam, DrP, Sf, Sf2, Sf3, ShP. Conditions: those of each lemma.
-/
import Derived.WalkKit
import Derived.WalkSpells
import Derived.WalkLawsBesides
import Derived.BigQuiet
import Derived.Deep.RegionHeld3
import Derived.ProofKit
import Derived.OpenShut
import Derived.Lib.Hide
import Derived.Test.YtklibcncmbofpaaGreatProg
import Derived.Maps.AppendAt
import Derived.Maps.OwnSet
import Derived.Maps.OwnOps
import Derived.Maps.RangeWalk
import Derived.IntWalk
import Derived.StillTailTactics
import Derived.Deep.DeepCutAuto
import Derived.Deep.RegionLaw
import Derived.Deep.RegionHeldLaw
import Derived.Test.YtklibcncmbofpaaGreatP01
import Derived.Test.YtklibcncmbofpaaGreatP02
import Derived.Test.YtklibcncmbofpaaGreatP03
set_option linter.unusedVariables false
set_option linter.unusedSimpArgs false
namespace Go.Proofs.YtklibcncmbofpaaGreat
open Go Go.RowKit
def par (d i : Nat) : Nat := (i - 1) / d
theorem par_lt {d i : Nat} (hd : 2 ≤ d) (hi : 0 < i) : par d i < i := by
 unfold par
 have : (i - 1) / d ≤ (i - 1) / 2 := Nat.div_le_div_left hd (by omega)
 omega
theorem par_iff {d i j : Nat} (hd : 2 ≤ d) : (0 < j ∧ par d j = i) ↔ d * i + 1 ≤ j ∧ j ≤ d * i + d := by
 unfold par
 have e : d * (i + 1) = d * i + d := by rw [Nat.mul_add, Nat.mul_one]
 constructor
 ·rintro ⟨h0, h⟩
  have h1 := Nat.div_mul_le_self (j - 1) d
  have h2 := Nat.lt_mul_div_succ (j - 1) (show 0 < d by omega)
  rw [h] at h1 h2
  rw [Nat.mul_comm] at h1
  omega
 ·rintro ⟨h1, h2⟩
  refine ⟨by omega, ?_⟩
  rw [Nat.div_eq_iff (by omega)]
  rw [Nat.mul_comm i d]
  omega
theorem getN_set (L : List Nat) (i x j : Nat) : (L.set i x).getD j 0 = if j = i ∧ i < L.length then x else L.getD j 0 := by
 simp only [List.getD_eq_getElem?_getD, List.getElem?_set]
 by_cases h : i = j
 ·subst h
  by_cases h2 : i < L.length
  ·simp [h2]
  ·simp [h2]
 ·have h' : ¬ j = i := fun e => h e.symm
  simp [h, h']
section
variable {R : Nat → Nat → Prop} {d : Nat} {L : List Nat} {i x : Nat}
def Hp (R : Nat → Nat → Prop) (d : Nat) (L : List Nat) : Prop := ∀ j, 0 < j → j < L.length → R (L.getD (par d j) 0) (L.getD j 0)
structure HoleI (R : Nat → Nat → Prop) (d : Nat) (L : List Nat) (i : Nat) : Prop where
 lt : i < L.length
 a : ∀ j, 0 < j → j < L.length → j ≠ i → par d j ≠ i → R (L.getD (par d j) 0) (L.getD j 0)
 b : ∀ j, 0 < j → j < L.length → par d j = i → 0 < i → R (L.getD (par d i) 0) (L.getD j 0)
def Below (R : Nat → Nat → Prop) (d : Nat) (L : List Nat) (i x : Nat) : Prop := ∀ j, 0 < j → j < L.length → par d j = i → R x (L.getD j 0)
theorem Hp.hole (ht : ∀ a b c, R a b → R b c → R a c) (hd : 2 ≤ d) (h : Hp R d L) (hi : i < L.length) : HoleI R d L i :=
 ⟨hi, fun j h0 hj _ _ => h j h0 hj, fun j h0 hj hp hi0 => by
  have h1 := h j h0 hj
  rw [hp] at h1
  exact ht _ _ _ (h i hi0 hi) h1⟩
theorem HoleI.fill (hd : 2 ≤ d) (h : HoleI R d L i) (hb : Below R d L i x) (hu : i = 0 ∨ R (L.getD (par d i) 0) x) : Hp R d (L.set i x) := by
 intro j h0 hj
 rw [List.length_set] at hj
 have hl := h.lt
 rw [getN_set, getN_set]
 by_cases e : j = i
 ·subst e
  have hp := par_lt hd h0
  rw [if_neg (by omega), if_pos ⟨rfl, hj⟩]
  rcases hu with hu | hu
  ·omega
  ·exact hu
 ·rw [if_neg (show ¬ (j = i ∧ i < L.length) by omega)]
  by_cases ep : par d j = i
  ·rw [if_pos ⟨ep, hl⟩]
   exact hb j h0 hj ep
  ·rw [if_neg (show ¬ (par d j = i ∧ i < L.length) from fun e => ep e.1)]
   exact h.a j h0 hj e ep
theorem HoleI.up (ht : ∀ a b c, R a b → R b c → R a c) (hd : 2 ≤ d) (h : HoleI R d L i) (h0 : 0 < i) (hx : R x (L.getD (par d i) 0)) :
  HoleI R d (L.set i (L.getD (par d i) 0)) (par d i) ∧ Below R d (L.set i (L.getD (par d i) 0)) (par d i) x := by
 have hp := par_lt hd h0
 have hl := h.lt
 have hpp : ∀ j, 0 < j → par d j = par d i → par d j ≠ i := fun j hj e => by omega
 refine ⟨⟨by rw [List.length_set]; omega, fun j j0 hj hji hjp => ?_, fun j j0 hj hjp hp0 => ?_⟩, fun j j0 hj hjp => ?_⟩
 ·rw [List.length_set] at hj
  have e : j ≠ i := fun e => hjp (by rw [e])
  rw [getN_set, getN_set, if_neg (show ¬ (j = i ∧ i < L.length) by omega)]
  by_cases ep : par d j = i
  ·rw [if_pos ⟨ep, hl⟩]
   exact h.b j j0 hj ep h0
  ·rw [if_neg (show ¬ (par d j = i ∧ i < L.length) from fun e => ep e.1)]
   exact h.a j j0 hj e ep
 ·rw [List.length_set] at hj
  have hp2 := par_lt hd hp0
  rw [getN_set, getN_set, if_neg (show ¬ (par d (par d i) = i ∧ i < L.length) by omega)]
  have h1 := h.a (par d i) hp0 (by omega) (by omega) (by omega)
  by_cases e : j = i
  ·rw [if_pos ⟨e, hl⟩]; exact h1
  ·rw [if_neg (show ¬ (j = i ∧ i < L.length) by omega)]
   have h2 := h.a j j0 hj e (by omega)
   rw [hjp] at h2
   exact ht _ _ _ h1 h2
 ·rw [List.length_set] at hj
  rw [getN_set]
  by_cases e : j = i
  ·rw [if_pos ⟨e, hl⟩]; exact hx
  ·rw [if_neg (show ¬ (j = i ∧ i < L.length) by omega)]
   have h2 := h.a j j0 hj e (by omega)
   rw [hjp] at h2
   exact ht _ _ _ hx h2
structure FirstC (R : Nat → Nat → Prop) (d : Nat) (L : List Nat) (i c : Nat) : Prop where
 c0 : 0 < c
 lt : c < L.length
 pc : par d c = i
 all : ∀ j, 0 < j → j < L.length → par d j = i → j ≠ c → R (L.getD c 0) (L.getD j 0)
theorem HoleI.down (ht : ∀ a b c, R a b → R b c → R a c) (hd : 2 ≤ d) (h : HoleI R d L i) {c : Nat} (hc : FirstC R d L i c) (hx : R (L.getD c 0) x) :
  HoleI R d (L.set i (L.getD c 0)) c ∧ R ((L.set i (L.getD c 0)).getD (par d c) 0) x := by
 have hl := h.lt
 have hci : i < c := by have := par_lt hd hc.c0; have := hc.pc; omega
 refine ⟨⟨by rw [List.length_set]; exact hc.lt, fun j j0 hj hjc hjp => ?_, fun j j0 hj hjp _ => ?_⟩, ?_⟩
 ·rw [List.length_set] at hj
  rw [getN_set, getN_set]
  by_cases e : j = i
  ·subst e
   have := par_lt hd j0
   rw [if_neg (show ¬ (par d j = j ∧ j < L.length) by omega), if_pos ⟨rfl, hl⟩]
   exact h.b c hc.c0 hc.lt hc.pc j0
  ·rw [if_neg (show ¬ (j = i ∧ i < L.length) by omega)]
   by_cases ep : par d j = i
   ·rw [if_pos ⟨ep, hl⟩]
    exact hc.all j j0 hj ep hjc
   ·rw [if_neg (show ¬ (par d j = i ∧ i < L.length) from fun e => ep e.1)]
    exact h.a j j0 hj e ep
 ·rw [List.length_set] at hj
  have hpj := par_lt hd j0
  rw [hc.pc, getN_set, getN_set, if_pos ⟨rfl, hl⟩, if_neg (show ¬ (j = i ∧ i < L.length) by omega)]
  have h2 := h.a j j0 hj (by omega) (by omega)
  rw [hjp] at h2
  exact h2
 ·rw [hc.pc, getN_set, if_pos ⟨rfl, hl⟩]; exact hx
theorem Hp.first (ht : ∀ a b c, R a b → R b c → R a c) (hd : 2 ≤ d) (h : Hp R d L) : ∀ (k j : Nat), j ≤ k → j < L.length → j = 0 ∨ R (L.getD 0 0) (L.getD j 0)
 | 0, j, hk, _ => Or.inl (by omega)
 | k + 1, j, hk, hj => by
  by_cases j0 : j = 0
  ·exact Or.inl j0
  ·right
   have hp := par_lt (i := j) hd (by omega)
   have h1 := h j (by omega) hj
   rcases Hp.first ht hd h k (par d j) (by omega) (by omega) with e | e
   ·rw [e] at h1; exact h1
   ·exact ht _ _ _ e h1
theorem Hp.frame {R' : Nat → Nat → Prop} (h : Hp R d L) (hR : ∀ a b, a ∈ L → b ∈ L → R a b → R' a b) (hd : 2 ≤ d) : Hp R' d L := fun j h0 hj => by
 have hp := par_lt hd h0
 have hm : ∀ q, q < L.length → L.getD q 0 ∈ L := fun q hq => by
  rw [List.getD_eq_getElem?_getD, List.getElem?_eq_getElem hq]; exact List.getElem_mem hq
 exact hR _ _ (hm _ (by omega)) (hm _ hj) (h j h0 hj)
theorem HoleI.frame {R' : Nat → Nat → Prop} (h : HoleI R d L i) (hR : ∀ a b, a ∈ L.eraseIdx i → b ∈ L.eraseIdx i → R a b → R' a b) (hd : 2 ≤ d) : HoleI R' d L i := by
 have hm : ∀ q, q < L.length → q ≠ i → L.getD q 0 ∈ L.eraseIdx i := fun q hq hne => by
  rw [List.getD_eq_getElem?_getD, List.getElem?_eq_getElem hq, List.mem_eraseIdx_iff_getElem?]
  exact ⟨q, hne, by simp [List.getElem?_eq_getElem hq]⟩
 refine ⟨h.lt, fun j h0 hj hji hp => ?_, fun j h0 hj hp hi0 => ?_⟩
 ·have := par_lt hd h0
  exact hR _ _ (hm _ (by omega) hp) (hm _ hj hji) (h.a j h0 hj hji hp)
 ·have h1 := par_lt hd h0
  have h2 := par_lt hd hi0
  have := h.lt
  exact hR _ _ (hm _ (by omega) (by omega)) (hm _ hj (by omega)) (h.b j h0 hj hp hi0)
end
def PlOf (f : Int → Option Int) (L : List Nat) : Prop := ∀ z v, f z = some v ↔ ∃ (y j : Nat), z = y ∧ v = j ∧ L[j]? = some y
def PlHole (f : Int → Option Int) (L : List Nat) (i x : Nat) : Prop := ∀ z v, z ≠ (x : Int) → (f z = some v ↔ ∃ (y j : Nat), z = y ∧ v = j ∧ j ≠ i ∧ L[j]? = some y)
def putF (f : Int → Option Int) (k z : Int) : Int → Option Int := fun q => if q = k then some z else f q
theorem PlHole.fill {f : Int → Option Int} {L : List Nat} {i x : Nat} (h : PlHole f L i x) (hi : i < L.length) (hn : (L.set i x).Nodup) : PlOf (putF f x i) (L.set i x) := by
 intro z v
 unfold putF
 by_cases hz : z = (x : Int)
 ·rw [if_pos hz]
  constructor
  ·intro e
   cases e
   exact ⟨x, i, hz, rfl, by simp [hi]⟩
  ·rintro ⟨y, j, rfl, rfl, hj⟩
   have e : y = x := by omega
   subst e
   have h1 : (L.set i y)[i]? = some y := by simp [hi]
   obtain ⟨g1, e1⟩ := List.getElem?_eq_some_iff.1 hj
   obtain ⟨g2, e2⟩ := List.getElem?_eq_some_iff.1 h1
   have : j = i := (List.getElem_inj hn).1 (e1.trans e2.symm)
   rw [this]
 ·rw [if_neg hz, h z v hz]
  constructor
  ·rintro ⟨y, j, rfl, rfl, hj, hg⟩
   exact ⟨y, j, rfl, rfl, by rw [List.getElem?_set_ne (fun e => hj e.symm)]; exact hg⟩
  ·rintro ⟨y, j, rfl, rfl, hg⟩
   by_cases e : j = i
   ·subst e
    rw [List.getElem?_set_self hi] at hg
    cases hg
    exact absurd rfl hz
   ·rw [List.getElem?_set_ne (fun e' => e e'.symm)] at hg
    exact ⟨y, j, rfl, rfl, e, hg⟩
theorem PlHole.move {f : Int → Option Int} {L : List Nat} {i p x : Nat} (h : PlHole f L i x) (hi : i < L.length) (hp : p < L.length) (hpi : p ≠ i) (hn : (L.set i x).Nodup) : PlHole (putF f (L.getD p 0) i) (L.set i (L.getD p 0)) p x := by
 intro z v hz
 have hLp : L[p]? = some (L.getD p 0) := by simp [List.getD_eq_getElem?_getD, hp]
 have huni : ∀ j, j ≠ i → L[j]? = some (L.getD p 0) → j = p := fun j hj hg => by
  have h1 : (L.set i x)[j]? = some (L.getD p 0) := by rw [List.getElem?_set_ne (fun e => hj e.symm)]; exact hg
  have h2 : (L.set i x)[p]? = some (L.getD p 0) := by rw [List.getElem?_set_ne (fun e => hpi e.symm)]; exact hLp
  obtain ⟨g1, e1⟩ := List.getElem?_eq_some_iff.1 h1
  obtain ⟨g2, e2⟩ := List.getElem?_eq_some_iff.1 h2
  exact (List.getElem_inj hn).1 (e1.trans e2.symm)
 generalize hy : L.getD p 0 = y at *
 unfold putF
 by_cases e : z = (y : Int)
 ·rw [if_pos e]
  constructor
  ·intro e2
   cases e2
   exact ⟨y, i, e, rfl, fun e => hpi e.symm, by simp [hi]⟩
  ·rintro ⟨y', j, e1, rfl, hj, hg⟩
   have : y' = y := by omega
   subst this
   by_cases hji : j = i
   ·rw [hji]
   ·rw [List.getElem?_set_ne (fun e' => hji e'.symm)] at hg
    exact absurd (huni j hji hg) hj
 ·rw [if_neg e, h z v hz]
  constructor
  ·rintro ⟨y', j, rfl, rfl, hj, hg⟩
   refine ⟨y', j, rfl, rfl, ?_, by rw [List.getElem?_set_ne (fun e' => hj e'.symm)]; exact hg⟩
   rintro rfl
   rw [hLp] at hg; cases hg; exact e rfl
  ·rintro ⟨y', j, rfl, rfl, hj, hg⟩
   by_cases hji : j = i
   ·subst hji
    rw [List.getElem?_set_self hi] at hg
    cases hg; exact absurd rfl e
   ·rw [List.getElem?_set_ne (fun e' => hji e'.symm)] at hg
    exact ⟨y', j, rfl, rfl, hji, hg⟩
theorem PlOf.hole {f : Int → Option Int} {L : List Nat} {i x : Nat} (h : PlOf f L) (hx : L[i]? = some x) : PlHole f L i x := fun z v hz => by
 rw [h z v]
 constructor
 ·rintro ⟨y, j, rfl, rfl, hg⟩
  refine ⟨y, j, rfl, rfl, ?_, hg⟩
  rintro rfl
  rw [hx] at hg; cases hg; exact hz rfl
 ·rintro ⟨y, j, h1, h2, _, h3⟩
  exact ⟨y, j, h1, h2, h3⟩
theorem move_perm {L : List Nat} {i p x : Nat} (hi : i < L.length) (hp : p < L.length) (hpi : p ≠ i) : ((L.set i (L.getD p 0)).set p x).Perm (L.set i x) := by
 have h := @List.set_set_perm _ (L.set i x) i p (by simpa using hi) (by simpa using hp)
 have e1 : (L.set i x)[p]'(by simpa using hp) = L.getD p 0 := by
  rw [List.getElem_set_ne (fun e => hpi e.symm)]; simp [List.getD_eq_getElem?_getD, hp]
 have e2 : (L.set i x)[i]'(by simpa using hi) = x := by simp
 rw [e1, e2, List.set_set] at h
 exact h
end Go.Proofs.YtklibcncmbofpaaGreat
namespace Go.Proofs.YtklibcncmbofpaaGreat
open Go Go.RowKit
structure RwK where
 at_ : World → Nat → List Nat → List Nat → Prop
 upd : ∀ {w w' : World} {p : Nat} {G S L : List Nat}, at_ w p G L → Upd S w w' → (∀ z, z ∈ S → z ∉ G) → at_ w' p G L
 lt : ∀ {w : World} {p : Nat} {G L : List Nat}, at_ w p G L → ∀ z, z ∈ G → z < w.heap.size
def ptrV (o : Option Nat) : Value := .pointer (o.map fun b => ⟨b, 0, none⟩)
def ptrsV (f : Nat → Option Nat) (m : Nat) : List Value := (List.range m).map fun h => ptrV (f h)
theorem ptrsV_get {f : Nat → Option Nat} {m j : Nat} (h : j < m) : (ptrsV f m)[j]? = some (ptrV (f j)) := by unfold ptrsV; simp [h]
theorem ptrsV_snoc (f : Nat → Option Nat) (m : Nat) (o : Option Nat) : ptrsV f m ++ [ptrV o] = ptrsV (fun h => if h = m then o else f h) (m + 1) := by
 unfold ptrsV
 rw [List.range_succ, List.map_append]
 congr 1
 ·apply List.map_congr_left
  intro a ha
  have := List.mem_range.1 ha
  show ptrV (f a) = ptrV (if a = m then o else f a)
  rw [if_neg (by omega)]
 ·simp
def setF {α : Type} (f : Nat → α) (h : Nat) (x : α) : Nat → α := fun k => if k = h then x else f k
theorem setF_same {α : Type} (f : Nat → α) (h : Nat) (x : α) : setF f h x h = x := by unfold setF; rw [if_pos rfl]
theorem setF_other {α : Type} (f : Nat → α) {h k : Nat} (x : α) (e : k ≠ h) : setF f h x k = f k := by unfold setF; rw [if_neg e]
structure FamM (K : RwK) (ety : TypeId) (w : World) (gr cr m : Nat) (has : Nat → Bool) (Z : List Nat) (ptr : Nat → Option Nat) (G L : Nat → List Nat) : Prop where
 rows : w.ownsRow 0 ety 1 (.slice (some ⟨gr, 0, none⟩) m cr) m (ptrsV ptr m)
 row : ∀ h, has h = true → ∃ rp, ptr h = some rp ∧ K.at_ w rp (G h) (L h)
 inZ : ∀ h, has h = true → ∀ z, z ∈ G h → z ∈ Z
 dis : ∀ h k, has h = true → has k = true → h ≠ k → ∀ z, z ∈ G h → z ∉ G k
 ltZ : ∀ z, z ∈ Z → z < w.heap.size
 grZ : gr ∉ Z
section
variable {K : RwK} {ety : TypeId} {w w' : World} {gr cr m : Nat} {has : Nat → Bool} {Z : List Nat} {ptr : Nat → Option Nat} {G L : Nat → List Nat}
theorem FamM.lt (h : FamM K ety w gr cr m has Z ptr G L) : gr < w.heap.size := (h.rows.lt gr rfl).2
theorem FamM.upd {S : List Nat} (h : FamM K ety w gr cr m has Z ptr G L) (hu : Upd S w w') (hS : ∀ z, z ∈ S → z ≠ gr ∧ z ∉ Z) : FamM K ety w' gr cr m has Z ptr G L :=
 ⟨owns_upd h.rows hu (fun k hk hm => by cases hk; exact (hS _ hm).1 rfl), fun g hg => by
  obtain ⟨rp, e, hr⟩ := h.row g hg
  exact ⟨rp, e, K.upd hr hu (fun z hz hm => (hS z hz).2 (h.inZ g hg z hm))⟩, h.inZ, h.dis, fun z hz => Nat.lt_of_lt_of_le (h.ltZ z hz) hu.size, h.grZ⟩
theorem FamM.cell (h : FamM K ety w gr cr m has Z ptr G L) {g rp : Nat} (hg : g < m) (hp : ptr g = some rp) : w.cell? ⟨gr, g, none⟩ = some (.pointer (some ⟨rp, 0, none⟩)) := by
 rw [h.rows.cellAt g (by omega), ptrsV_get hg, hp]; rfl
theorem FamM.one {S G' L' : List Nat} {g rp : Nat} (h : FamM K ety w gr cr m has Z ptr G L) (hg : has g = true) (hp : ptr g = some rp) (hu : Upd S w w') (hS : ∀ z, z ∈ S → z ∈ G g ∨ (z ≠ gr ∧ z ∉ Z)) (hr : K.at_ w' rp G' L') (hG : ∀ z, z ∈ G' → z ∈ G g ∨ w.heap.size ≤ z) :
  FamM K ety w' gr cr m has (Z ++ G') ptr (setF G g G') (setF L g L') := by
 have hgl := h.lt
 have hgr : ∀ z, z ∈ S → z ≠ gr := fun z hz e => by
  rcases hS z hz with h1 | h1
  ·exact h.grZ (by rw [← e]; exact h.inZ g hg z h1)
  ·exact h1.1 e
 have hoth : ∀ k, has k = true → k ≠ g → ∀ z, z ∈ S → z ∉ G k := fun k hk hne z hz hm => by
  rcases hS z hz with h1 | h1
  ·exact h.dis g k hg hk (fun e => hne e.symm) z h1 hm
  ·exact h1.2 (h.inZ k hk z hm)
 refine ⟨owns_upd h.rows hu (fun k hk hm => by cases hk; exact hgr _ hm rfl), fun k hk => ?_, fun k hk z hz => ?_, fun k j hk hj hne z hz => ?_, fun z hz => ?_, fun hm => ?_⟩
 ·by_cases e : k = g
  ·subst e; rw [setF_same, setF_same]; exact ⟨rp, hp, hr⟩
  ·rw [setF_other _ _ e, setF_other _ _ e]
   obtain ⟨q, e2, hq⟩ := h.row k hk
   exact ⟨q, e2, K.upd hq hu (hoth k hk e)⟩
 ·by_cases e : k = g
  ·subst e; rw [setF_same] at hz; exact List.mem_append.2 (Or.inr hz)
  ·rw [setF_other _ _ e] at hz; exact List.mem_append.2 (Or.inl (h.inZ k hk z hz))
 ·by_cases e : k = g
  ·subst e
   rw [setF_same] at hz
   rw [setF_other _ _ (fun e => hne e.symm)]
   rcases hG z hz with h1 | h1
   ·exact h.dis k j hk hj hne z h1
   ·exact fun hm => by have := h.ltZ z (h.inZ j hj z hm); omega
  ·rw [setF_other _ _ e] at hz
   by_cases e2 : j = g
   ·subst e2
    rw [setF_same]
    intro hm
    rcases hG z hm with h1 | h1
    ·exact h.dis k j hk hj hne z hz h1
    ·have := h.ltZ z (h.inZ k hk z hz); omega
   ·rw [setF_other _ _ e2]; exact h.dis k j hk hj hne z hz
 ·rcases List.mem_append.1 hz with h1 | h1
  ·exact Nat.lt_of_lt_of_le (h.ltZ z h1) hu.size
  ·exact K.lt hr z h1
 ·rcases List.mem_append.1 hm with h1 | h1
  ·exact h.grZ h1
  ·rcases hG gr h1 with h2 | h2
   ·exact h.grZ (h.inZ g hg gr h2)
   ·omega
theorem FamM.snoc {S G' L' : List Nat} {rp gr' cr' : Nat} (h : FamM K ety w gr cr m has Z ptr G L) (hm : has m = false) (hu : Upd S w w') (hS : ∀ z, z ∈ S → z ∉ Z) (hr : K.at_ w' rp G' L') (hG : ∀ z, z ∈ G' → w.heap.size ≤ z) (hg1 : gr' ∉ Z) (hg2 : gr' ∉ G')
  (hrow : w'.ownsRow 0 ety 1 (.slice (some ⟨gr', 0, none⟩) (m + 1) cr') (m + 1) (ptrsV ptr m ++ [ptrV (some rp)])) :
  FamM K ety w' gr' cr' (m + 1) (fun h => has h || h == m) (Z ++ G') (setF ptr m (some rp)) (setF G m G') (setF L m L') := by
 have hcase : ∀ k, (has k || k == m) = true → k = m ∨ (k ≠ m ∧ has k = true) := fun k hk => by
  by_cases e : k = m
  ·exact Or.inl e
  ·right; simp [e] at hk; exact ⟨e, hk⟩
 refine ⟨by rw [ptrsV_snoc] at hrow; exact hrow, fun k hk => ?_, fun k hk z hz => ?_, fun k j hk hj hne z hz => ?_, fun z hz => ?_, fun hmm => ?_⟩
 ·rcases hcase k hk with rfl | ⟨e, hk'⟩
  ·rw [setF_same, setF_same, setF_same]; exact ⟨rp, rfl, hr⟩
  ·rw [setF_other _ _ e, setF_other _ _ e, setF_other _ _ e]
   obtain ⟨q, e2, hq⟩ := h.row k hk'
   exact ⟨q, e2, K.upd hq hu (fun z hz hm => hS z hz (h.inZ k hk' z hm))⟩
 ·rcases hcase k hk with rfl | ⟨e, hk'⟩
  ·rw [setF_same] at hz; exact List.mem_append.2 (Or.inr hz)
  ·rw [setF_other _ _ e] at hz; exact List.mem_append.2 (Or.inl (h.inZ k hk' z hz))
 ·rcases hcase k hk with rfl | ⟨e, hk'⟩
  ·rcases hcase j hj with rfl | ⟨e2, hj'⟩
   ·exact absurd rfl hne
   ·rw [setF_same] at hz
    rw [setF_other _ _ e2]
    exact fun hm => by have := h.ltZ z (h.inZ j hj' z hm); have := hG z hz; omega
  ·rw [setF_other _ _ e] at hz
   rcases hcase j hj with rfl | ⟨e2, hj'⟩
   ·rw [setF_same]
    exact fun hm => by have := h.ltZ z (h.inZ k hk' z hz); have := hG z hm; omega
   ·rw [setF_other _ _ e2]; exact h.dis k j hk' hj' hne z hz
 ·rcases List.mem_append.1 hz with h1 | h1
  ·exact Nat.lt_of_lt_of_le (h.ltZ z h1) hu.size
  ·exact K.lt hr z h1
 ·rcases List.mem_append.1 hmm with h1 | h1
  ·exact hg1 h1
  ·exact hg2 h1
end
end Go.Proofs.YtklibcncmbofpaaGreat
namespace Go.Proofs.YtklibcncmbofpaaGreat
open Go Go.RowKit
def ltR (A : NS) (a b : Nat) : Prop := decide (lt3 A a b) = true
theorem ltR_iff {A : NS} {a b : Nat} : ltR A a b ↔ lt3 A a b := by unfold ltR; simp
theorem ltR_trans (A : NS) : ∀ a b c, ltR A a b → ltR A b c → ltR A a c := fun a b c h1 h2 => ltR_iff.2 (lt3_trans (ltR_iff.1 h1) (ltR_iff.1 h2))
structure DrI (d : Nat) (A : NS) (L : Nat → List Nat) : Prop where
 hp : ∀ h : Nat, hasN A h = true → Hp (ltR A) d (L h)
 nd : ∀ h : Nat, hasN A h = true → (L h).Nodup
 mem : ∀ h x : Nat, hasN A h = true → (x ∈ L h ↔ x < A.cs.length ∧ (A.c x).i = h)
section
variable {d : Nat} {A : NS} {L : Nat → List Nat}
theorem DrI.frame {A' : NS} {l : List Nat} (h : Hp (ltR A) d l) (hd : 2 ≤ d) (hs : ∀ y, y ∈ l → A'.c y = A.c y) : Hp (ltR A') d l :=
 h.frame (fun a b ha hb hab => ltR_iff.2 ((lt3_same (hs a ha) (hs b hb)).2 (ltR_iff.1 hab))) hd
theorem DrI.len (h : DrI d A L) {g x : Nat} (hg : hasN A g = true) (hx : x ∈ L g) : x < A.cs.length ∧ inN A (x : Int) = true ∧ (A.c x).i = g := by
 have h1 := (h.mem g x hg).1 hx
 have h2 := (hasN_iff _ _).1 hg
 exact ⟨h1.1, (inN_nat _ _).2 ⟨h1.1, by omega⟩, h1.2⟩
theorem DrI.many (h : DrI d A L) {g : Nat} (hg : hasN A g = true) : (L g).length ≤ A.cs.length := by
 have h1 := nodup_range A.cs.length ((L g).map (fun (x : Nat) => (x : Int))) (by
  have hn := h.nd g hg
  unfold List.Nodup at hn ⊢
  rw [List.pairwise_map]
  exact hn.imp (fun h e => h (by omega))) (fun x hx => by
  obtain ⟨y, hy, rfl⟩ := List.mem_map.1 hx
  have := (h.mem g y hg).1 hy; omega)
 simpa using h1
theorem DrI.first (h : DrI d A L) (hd : 2 ≤ d) {g m : Nat} {l : List Nat} (hg : hasN A g = true) (hl : L g = m :: l) : minN A g = some m := by
 have h0 := (hasN_iff _ _).1 hg
 have hm := (h.mem g m hg).1 (by rw [hl]; simp)
 refine (minN_some (by omega)).2 ⟨hm.1, hm.2, fun y hy hyi => ?_⟩
 have hym := (h.mem g y hg).2 ⟨hy, hyi⟩
 have hH := h.hp g hg
 rw [hl] at hym hH
 obtain ⟨j, hj, e⟩ := List.mem_iff_getElem.1 hym
 rcases Hp.first (ltR_trans A) hd hH j j (Nat.le_refl _) hj with e2 | e2
 ·subst e2; left; rw [← e]; rfl
 ·right
  have e3 : (m :: l).getD j 0 = y := by rw [List.getD_eq_getElem?_getD, List.getElem?_eq_getElem hj, e]; rfl
  rw [e3] at e2
  exact ltR_iff.1 e2
theorem DrI.none (h : DrI d A L) {g : Nat} (hg : hasN A g = true) (hl : L g = []) : minN A g = none := by
 refine (minN_none (by have := (hasN_iff _ _).1 hg; omega)).2 ?_
 rcases Nat.eq_zero_or_pos (lenN A (g : Int)) with e | e
 ·exact e
 ·obtain ⟨x, hx, hi, _⟩ := lenN_pos.1 e
  have := (h.mem g x hg).2 ⟨hx, hi⟩
  rw [hl] at this; cases this
theorem DrI.next {A' : NS} {g : Nat} {l : List Nat} (h : DrI d A L) (hd : 2 ≤ d) (hh : ∀ k : Nat, hasN A' k = hasN A k) (hc : A'.cs.length = A.cs.length)
  (k1 : ∀ k : Nat, k ≠ g → ∀ x, x < A.cs.length → 1 ≤ k → ((A'.c x).i = k ↔ (A.c x).i = k)) (k2 : ∀ x, (A.c x).i ≠ g → (A'.c x).i ≠ g → A'.c x = A.c x)
  (n1 : Hp (ltR A') d l) (n2 : l.Nodup) (n3 : hasN A g = true → ∀ x, x ∈ l ↔ x < A.cs.length ∧ (A'.c x).i = g) : DrI d A' (setF L g l) := by
 refine ⟨fun k hk => ?_, fun k hk => ?_, fun k x hk => ?_⟩
 all_goals rw [hh] at hk
 ·by_cases e : k = g
  ·subst e; rw [setF_same]; exact n1
  ·rw [setF_other _ _ e]
   refine DrI.frame (h.hp k hk) hd (fun y hy => ?_)
   have hy2 := (h.mem k y hk).1 hy
   have hk0 := (hasN_iff _ _).1 hk
   exact k2 y (by omega) (by rw [(k1 k e y hy2.1 (by omega)).2 hy2.2]; omega)
 ·by_cases e : k = g
  ·subst e; rw [setF_same]; exact n2
  ·rw [setF_other _ _ e]; exact h.nd k hk
 ·rw [hc]
  by_cases e : k = g
  ·subst e; rw [setF_same]; exact n3 hk x
  ·rw [setF_other _ _ e, h.mem k x hk]
   have hk0 := (hasN_iff _ _).1 hk
   constructor
   ·rintro ⟨a, b⟩; exact ⟨a, (k1 k e x a (by omega)).2 b⟩
   ·rintro ⟨a, b⟩; exact ⟨a, (k1 k e x a (by omega)).1 b⟩
theorem DrI.put (h : DrI d A L) (hd : 2 ≤ d) (ok : A.Ok) {g x : Nat} {k s : Int} (hB : putB A g x = true) {l : List Nat} (hp : l.Perm (x :: L g)) (hH : Hp (ltR (putN A g x k s)) d l) : DrI d (putN A g x k s) (setF L g l) ∧ x ∉ L g := by
 obtain ⟨b1, b2, b3⟩ := (putB_iff _ _ _).1 hB
 have hx : x < A.cs.length := by have := (slotN_iff _ _).1 b2; omega
 have h0 : (A.c x).i = 0 := by
  have := (ok.nat x hx).1
  have h3 : ¬ (0 < (A.c x).i) := fun h' => by rw [(inN_nat A x).2 ⟨hx, h'⟩] at b3; cases b3
  omega
 have hg0 := (hasN_iff _ _).1 b1
 have hc : ∀ y, (putN A g x k s).c y = if y = x then ⟨g, k, s⟩ else A.c y := fun y => by
  unfold putN; rw [if_pos hB, Int.toNat_natCast, c_with]
  by_cases e : y = x
  ·rw [if_pos ⟨e, hx⟩, if_pos e]
  ·rw [if_neg (fun h => e h.1), if_neg e]
 have hxL : x ∉ L g := fun hm => by have := (h.mem g x b1).1 hm; omega
 refine ⟨h.next hd (fun q => by unfold putN; rw [if_pos hB]; rfl) (by unfold putN; rw [if_pos hB, len_with]) (fun q hq y hy hq1 => ?_) (fun y hy1 hy2 => ?_) hH (hp.nodup_iff.2 (List.nodup_cons.2 ⟨hxL, h.nd g b1⟩)) (fun _ y => ?_), hxL⟩
 ·rw [hc]
  by_cases e : y = x
  ·rw [if_pos e, e]; simp only; omega
  ·rw [if_neg e]
 ·rw [hc] at hy2 ⊢
  by_cases e : y = x
  ·rw [if_pos e] at hy2; exact absurd rfl hy2
  ·rw [if_neg e]
 ·rw [hp.mem_iff, List.mem_cons, h.mem g y b1, hc]
  by_cases e : y = x
  ·rw [if_pos e, e]; simp [hx]
  ·rw [if_neg e]; simp [e]
theorem DrI.low (h : DrI d A L) (hd : 2 ≤ d) {g x : Nat} {k s : Int} (hB : lowB A x k s = true) (hg : hasN A g = true) (hx : x ∈ L g) {l : List Nat} (hp : l.Perm (L g)) (hH : Hp (ltR (lowN A x k s)) d l) : DrI d (lowN A x k s) (setF L g l) := by
 have hm := (h.mem g x hg).1 hx
 have hc := low_c hB hm.1
 have hi := low_i hB hm.1
 refine h.next hd (fun q => by unfold hasN; rw [low_hs]) (low_len _ _ _ _) (fun q hq y hy hq1 => by rw [hi]) (fun y hy1 hy2 => ?_) hH (hp.nodup_iff.2 (h.nd g hg)) (fun _ y => by rw [hp.mem_iff, h.mem g y hg, hi])
 rw [hc, if_neg (fun e => hy1 (by rw [e]; exact hm.2))]
theorem DrI.drop (h : DrI d A L) (hd : 2 ≤ d) {g x : Nat} (hg : hasN A g = true) (hx : x ∈ L g) {l : List Nat} (hp : (x :: l).Perm (L g)) (hH : Hp (ltR A) d l) : DrI d (dropN A x) (setF L g l) := by
 have hm := (h.mem g x hg).1 hx
 have hg0 := (hasN_iff _ _).1 hg
 have hin : inN A (x : Int) = true := (inN_nat A x).2 ⟨hm.1, by omega⟩
 have hc := drop_c hin
 have hnd : (x :: l).Nodup := hp.nodup_iff.2 (h.nd g hg)
 have hxt : x ∉ l := (List.nodup_cons.1 hnd).1
 have hcy : ∀ y, y ≠ x → (dropN A x).c y = A.c y := fun y hy => by rw [hc, if_neg hy]
 refine h.next hd (fun q => by unfold hasN; rw [drop_hs]) (drop_len _ _) (fun q hq y hy hq1 => ?_) (fun y hy1 hy2 => hcy y (fun e => hy1 (by rw [e]; exact hm.2))) (DrI.frame hH hd (fun y hy => hcy y (fun e => hxt (by rw [← e]; exact hy)))) (List.nodup_cons.1 hnd).2 (fun _ y => ?_)
 ·rw [hc]
  by_cases e : y = x
  ·rw [if_pos e, e]; show (0 : Int) = (q : Int) ↔ _; omega
  ·rw [if_neg e]
 ·have e1 := hp.mem_iff (a := y)
  rw [List.mem_cons, h.mem g y hg] at e1
  rw [hc]
  by_cases e : y = x
  ·rw [if_pos e, e]
   refine ⟨fun hh => absurd hh hxt, fun hh => ?_⟩
   have : (0 : Int) = (g : Int) := hh.2
   omega
  ·rw [if_neg e, ← e1]; simp [e]
theorem has_make (A : NS) (hl : ¬ 65536 < A.hs.length) (hl0 : 1 ≤ A.hs.length) (k : Nat) : hasN (makeN A) k = (hasN A k || k == A.hs.length) := by
 unfold makeN hasN
 rw [if_neg hl]
 simp only [List.length_append, List.length_singleton, Int.toNat_natCast, List.getD_eq_getElem?_getD]
 by_cases e : k = A.hs.length
 ·subst e
  simp
  omega
 ·by_cases e2 : k < A.hs.length
  ·rw [List.getElem?_append_left e2]
   have e3 : (k : Int) < (A.hs.length : Int) := by omega
   have e4 : (k : Int) < (A.hs.length : Int) + 1 := by omega
   simp [e, e2, e3, e4]
  ·have e3 : ¬ (k : Int) < (A.hs.length : Int) := by omega
   have e4 : ¬ (k : Int) < (A.hs.length : Int) + 1 := by omega
   simp [e, e2, e3, e4]
theorem DrI.make (h : DrI d A L) (hd : 2 ≤ d) (ok : A.Ok) (hl : ¬ 65536 < A.hs.length) (hl0 : 1 ≤ A.hs.length) : DrI d (makeN A) (setF L A.hs.length []) := by
 have hc : (makeN A).cs = A.cs := by unfold makeN; rw [if_neg hl]
 have hcc : ∀ x, (makeN A).c x = A.c x := fun x => by unfold NS.c; rw [hc]
 have hno : hasN A (A.hs.length : Int) = false := by
  cases hh : hasN A (A.hs.length : Int) with
  | false => rfl
  | true => have := (hasN_iff _ _).1 hh; omega
 have hcase : ∀ k : Nat, hasN (makeN A) k = true → k = A.hs.length ∨ (k ≠ A.hs.length ∧ hasN A k = true) := fun k hk => by
  rw [has_make A hl hl0] at hk
  by_cases e : k = A.hs.length
  ·exact Or.inl e
  ·right; simp [e] at hk; exact ⟨e, hk⟩
 refine ⟨fun k hk => ?_, fun k hk => ?_, fun k x hk => ?_⟩
 ·rcases hcase k hk with rfl | ⟨e, hk'⟩
  ·rw [setF_same]; intro j _ hj; simp at hj
  ·rw [setF_other _ _ e]
   exact (h.hp k hk').frame (fun a b _ _ hab => ltR_iff.2 ((lt3_same (hcc a) (hcc b)).2 (ltR_iff.1 hab))) hd
 ·rcases hcase k hk with rfl | ⟨e, hk'⟩
  ·rw [setF_same]; exact List.nodup_nil
  ·rw [setF_other _ _ e]; exact h.nd k hk'
 ·rw [hc, hcc]
  rcases hcase k hk with rfl | ⟨e, hk'⟩
  ·rw [setF_same]
   simp only [List.not_mem_nil, false_iff, not_and]
   intro hx hi
   have := (ok.nat x hx).2
   omega
  ·rw [setF_other _ _ e]; exact h.mem k x hk'
end
end Go.Proofs.YtklibcncmbofpaaGreat
namespace Go.Proofs.YtklibcncmbofpaaGreat
open Go Go.RowKit
structure OrdQ where
 ty : TypeId
 p : Nat
 rd : List Nat
 wr : List Nat
 lt : Nat → Nat → Bool
 dom : Nat → Prop
 at_ : World → Prop
 sub : ∀ x, x ∈ wr → x ∈ rd
 low : ∀ {w : World}, at_ w → ∀ x, x ∈ rd → x < w.heap.size
 upd : ∀ {w w' : World} {S : List Nat}, at_ w → Upd S w w' → (∀ x, x ∈ S → x ∉ rd) → at_ w'
 trans : ∀ a b c, lt a b = true → lt b c = true → lt a c = true
 total : ∀ a b, a ≠ b → lt a b = true ∨ lt b a = true
 asym : ∀ a b, lt a b = true → lt b a = false
 fn : FuncId
 recv : Value
 ent : Enters fn
 meth : ∀ {w : World}, at_ w → (method 429 ty (.pointer (some ⟨p, 0, none⟩)) "Ahead").run Tryz.prog w = .ok (fn, recv) w
 nila : ∀ w : World, (nilAhead 429 ty (.pointer (some ⟨p, 0, none⟩)) "Ahead").run Tryz.prog w = .ok (some false) w
 ask : ∀ {w : World} (x y : Nat), at_ w → dom x → dom y → Calls Tryz.prog fn #[recv, .int .i64 (x : Int), .int .i64 (y : Int)] w fun e w' => e = .returned (.bool (lt x y)) ∧ at_ w' ∧ Upd wr w w'
structure OrdQ.On (O : OrdQ) (w0 w : World) : Prop where
 at_ : O.at_ w
 upd : Upd O.wr w0 w
theorem OrdQ.On.start {O : OrdQ} {w : World} (h : O.at_ w) : O.On w w := ⟨h, Upd.refl _ _⟩
theorem OrdQ.On.drew {O : OrdQ} {w0 w : World} (h : O.On w0 w) : O.On w0 w.drew := ⟨O.upd h.at_ ((Upd.refl [] w).drew) (by simp), h.upd.drew⟩
theorem OrdQ.On.drewN {O : OrdQ} {w0 w : World} (h : O.On w0 w) (n : Nat) : O.On w0 (w.drewN n) := ⟨O.upd h.at_ ((Upd.refl [] w).drewN n) (by simp), h.upd.drewN n⟩
theorem OrdQ.On.asked {O : OrdQ} {w0 w w' : World} (h : O.On w0 w) (ha : O.at_ w') (hu : Upd O.wr w w') : O.On w0 w' := ⟨ha, h.upd.trans hu⟩
def OrdQ.R (O : OrdQ) (a b : Nat) : Prop := O.lt a b = true
theorem OrdQ.tr (O : OrdQ) : ∀ a b c, O.R a b → O.R b c → O.R a c := O.trans
structure RwM (w : World) (rp mb g cap d : Nat) (f : Int → Option Int) (L : List Nat) : Prop where
 head : RowAt w rp 247 3 (fun j => [Value.int .i64 (d : Int), .slice (some ⟨g, 0, none⟩) L.length cap, .map (some mb)].getD j undef)
 row : IZ w g cap (natsZ L)
 map : MapI w mb f
 sep : rp ≠ mb ∧ rp ≠ g ∧ mb ≠ g
theorem natsZ_ln (L : List Nat) : (natsZ L).length = L.length := by unfold natsZ; simp
theorem natsZ_gt {L : List Nat} {j : Nat} : (natsZ L).getD j 0 = ((L.getD j 0 : Nat) : Int) := by
 unfold natsZ
 simp only [List.getD_eq_getElem?_getD, List.getElem?_map]
 cases L[j]? <;> rfl
theorem natsZ_set (L : List Nat) (i x : Nat) : natsZ (L.set i x) = (natsZ L).set i (x : Int) := by unfold natsZ; rw [List.map_set]
section
variable {w : World} {rp mb g cap d : Nat} {f : Int → Option Int} {L : List Nat}
theorem RwM.upd {w' : World} {S : List Nat} (h : RwM w rp mb g cap d f L) (hu : Upd S w w') (h1 : rp ∉ S) (h2 : mb ∉ S) (h3 : g ∉ S) : RwM w' rp mb g cap d f L :=
 ⟨h.head.upd hu h1, h.row.upd hu h3, h.map.upd hu h2, h.sep⟩
theorem RwM.upd0 {w' : World} (h : RwM w rp mb g cap d f L) (hu : Upd [] w w') : RwM w' rp mb g cap d f L := h.upd hu (by simp) (by simp) (by simp)
theorem RwM.h0 (h : RwM w rp mb g cap d f L) : w.cell? ⟨rp, 0, none⟩ = some (.int .i64 (d : Int)) := h.head.cellAt 0 (by omega) rfl
theorem RwM.h1 (h : RwM w rp mb g cap d f L) : w.cell? ⟨rp, 1, none⟩ = some (.slice (some ⟨g, 0, none⟩) L.length cap) := h.head.cellAt 1 (by omega) rfl
theorem RwM.h2 (h : RwM w rp mb g cap d f L) : w.cell? ⟨rp, 2, none⟩ = some (.map (some mb)) := h.head.cellAt 2 (by omega) rfl
theorem RwM.lt (h : RwM w rp mb g cap d f L) : rp < w.heap.size ∧ mb < w.heap.size ∧ g < w.heap.size := ⟨h.head.lt, h.map.lt, h.row.lt⟩
theorem RwM.cell (h : RwM w rp mb g cap d f L) (j : Nat) (hj : j < L.length) : w.cell? ⟨g, j, none⟩ = some (.int .i64 ((L.getD j 0 : Nat) : Int)) := by
 have := h.row.cell j (by rw [natsZ_ln]; exact hj)
 rwa [natsZ_gt] at this
/-! ### places -/
theorem parent_any (d i : Nat) (hd : 2 ≤ d ∧ d ≤ 16) (hi : i ≤ 65536) (w : World) :
  Calls Tryz.prog 165 #[.int .i64 (d : Int), .int .i64 (i : Int)] w fun e w' => e = .returned (.tuple #[.int .i64 (if i = 0 then 0 else (par d i : Int)), .bool (decide (0 < i))]) ∧ Upd [] w w' := by
 have kf : ∀ W, Calls Tryz.prog 115 #[.int .i64 (d : Int)] W fun e w' => e = .returned (.bool true) ∧ w' = W := fun W => by
  have h1 : (d : Int) ≥ 2 := by omega
  have h2 : (d : Int) ≤ 16 := by omega
  go_enter Tryz.func115, Tryz.ntmps115
  go_wp2
  go_ret
  exact ⟨rfl, rfl⟩
 by_cases h0 : i = 0
 ·subst h0
  go_enter Tryz.func165, Tryz.ntmps165
  go_wp2_with (first | (go_at_call 115; (with_reducible refine (kf _).mono ?_); rintro e w9 ⟨rfl, hw9⟩; rw [hw9]; clear hw9 w9) | fail)
  go_ret2
  exact ⟨rfl, Upd.refl _ _⟩
 ·have h1 : ¬ (i : Int) < 1 := by omega
  have hd0 : ¬ (d : Int) = 0 := by omega
  rw [if_neg h0, decide_eq_true (by omega : 0 < i)]
  have hq : ((i : Int) - 1).tdiv (d : Int) = (par d i : Int) := by
   unfold par
   rw [show (i : Int) - 1 = ((i - 1 : Nat) : Int) by omega]
   rfl
  go_enter Tryz.func165, Tryz.ntmps165
  go_wp2_with (first | (go_at_call 115; (with_reducible refine (kf _).mono ?_); rintro e w9 ⟨rfl, hw9⟩; rw [hw9]; clear hw9 w9) | fail)
  go_ret2
  have hp := par_lt hd.1 (show 0 < i by omega)
  rw [IntWalk.wrap64_in _ (by omega)]
  exact ⟨rfl, Upd.refl _ _⟩
theorem child_any (d i k : Nat) (hd : 2 ≤ d ∧ d ≤ 16) (hi : i ≤ 65536) (hk : 1 ≤ k ∧ k ≤ d) (w : World) :
  Calls Tryz.prog 172 #[.int .i64 (d : Int), .int .i64 (i : Int), .int .i64 (k : Int)] w fun e w' => e = .returned (.tuple #[.int .i64 ((d * i + k : Nat) : Int), .bool true]) ∧ Upd [] w w' := by
 have kf : ∀ W, Calls Tryz.prog 115 #[.int .i64 (d : Int)] W fun e w' => e = .returned (.bool true) ∧ w' = W := fun W => by
  have h1 : (d : Int) ≥ 2 := by omega
  have h2 : (d : Int) ≤ 16 := by omega
  go_enter Tryz.func115, Tryz.ntmps115
  go_wp2
  go_ret
  exact ⟨rfl, rfl⟩
 have h1 : ¬ (i : Int) < 0 := by omega
 have h2 : ¬ (i : Int) > 1099511627776 := by omega
 have h3 : ¬ (k : Int) < 1 := by omega
 have h4 : ¬ (k : Int) > (d : Int) := by omega
 have hm : d * i ≤ 16 * 65536 := Nat.mul_le_mul hd.2 hi
 have hmul : (d : Int) * (i : Int) = ((d * i : Nat) : Int) := by simp
 generalize d * i = m at *
 have hw1 : wrap64 (m : Int) = (m : Int) := IntWalk.wrap64_in _ (by omega)
 have hw2 : wrap64 ((m : Int) + (k : Int)) = (m : Int) + (k : Int) := IntWalk.wrap64_in _ (by omega)
 go_enter Tryz.func172, Tryz.ntmps172
 go_wp2_with (first | (go_at_call 115; (with_reducible refine (kf _).mono ?_); rintro e w9 ⟨rfl, hw9⟩; rw [hw9]; clear hw9 w9) | fail)
 go_ret2
 exact ⟨by first | rfl | simp [hmul], Upd.refl _ _⟩
set_option maxHeartbeats 1000000 in
theorem rset_any (h : RwM w rp mb g cap d f L) (i x : Nat) (hi : i < L.length) (hx : x ≤ 65536) (hl : L.length ≤ 65536) :
  Calls Tryz.prog 166 #[.pointer (some ⟨rp, 0, none⟩), .int .i64 (i : Int), .int .i64 (x : Int)] w fun e w' => e = .returned (.tuple #[]) ∧ RwM w' rp mb g cap d (putF f x i) (L.set i x) ∧ Upd [g, mb] w w' := by
 have c0 := h.h0
 have c1 := h.h1
 have c2 := h.h2
 have hc := h.row.cap
 rw [natsZ_ln] at hc
 have fg := h.row.free i
 have cg := h.cell i hi
 have hlt := h.lt
 have s := h.sep
 have hu1 : Upd [g] w (w.setCell ⟨g, i, none⟩ (.int .i64 (x : Int))) := by (repeat (first | assumption | exact Upd.refl _ _ | refine Upd.alloc ?_ _ | refine Upd.drew ?_ | refine Upd.drewN ?_ _ | refine Upd.setCell ?_ ?_ _ | focus (left; simp; done) | focus (right; simp; done) | focus (right; simp; omega)))
 have hM1 : MapI (w.setCell ⟨g, i, none⟩ (.int .i64 (x : Int))) mb f := h.map.upd hu1 (by simp; omega)
 have H1 : RowAt (w.setCell ⟨g, i, none⟩ (.int .i64 (x : Int))) rp 247 3 (fun j => [Value.int .i64 (d : Int), .slice (some ⟨g, 0, none⟩) L.length cap, .map (some mb)].getD j undef) := h.head.upd hu1 (by simp; omega)
 have H2 : IZ (w.setCell ⟨g, i, none⟩ (.int .i64 (x : Int))) g cap (natsZ (L.set i x)) := by rw [natsZ_set]; exact h.row.set i _
 have HH := Lib.hid (And.intro H1 (And.intro H2 (And.intro s hu1)))
 have hil : (i : Int) < (L.length : Int) := by omega
 have e1 : rp ≠ g := s.2.1
 generalize hn : L.length = n at *
 have HN := Lib.hid hn
 clear h H1 H2 hu1 hn
 go_enter Tryz.func166, Tryz.ntmps166
 go_wp2_with (first
  | (at_mapUpdate; refine wpList_mput rfl _ _ _ rfl mb f rfl hM1 (x : Int) (i : Int) rfl rfl (by omega) (by omega) ?_; intro w2 hm2 hu2)
  | fail)
 go_end0
 obtain ⟨H1, H2, s, hu1⟩ := HH.out
 refine ⟨rfl, ⟨?_, H2.upd hu2 (by simp; omega), hm2, s⟩, (hu1.mono (by simp)).trans (hu2.mono (by simp))⟩
 rw [List.length_set, HN.out]
 exact H1.upd hu2 (by simp; omega)
end
end Go.Proofs.YtklibcncmbofpaaGreat
namespace Go.Proofs.YtklibcncmbofpaaGreat
open Go Go.RowKit
structure SepQ (O : OrdQ) (rp mb g : Nat) : Prop where
 a : rp ∉ O.rd
 b : mb ∉ O.rd
 c : g ∉ O.rd
theorem SepQ.wr {O : OrdQ} {rp mb g : Nat} (h : SepQ O rp mb g) : rp ∉ O.wr ∧ mb ∉ O.wr ∧ g ∉ O.wr := ⟨fun hm => h.a (O.sub _ hm), fun hm => h.b (O.sub _ hm), fun hm => h.c (O.sub _ hm)⟩
theorem getN_mem {L : List Nat} {i x p : Nat} (hp : p < L.length) (hne : p ≠ i) : L.getD p 0 ∈ L.set i x := by
 have h1 : (L.set i x)[p]? = some (L.getD p 0) := by rw [List.getElem?_set_ne (fun e => hne e.symm)]; simp [List.getD_eq_getElem?_getD, hp]
 exact List.mem_of_getElem? h1
theorem getN_ne {L : List Nat} {i x p : Nat} (hi : i < L.length) (hp : p < L.length) (hne : p ≠ i) (hn : (L.set i x).Nodup) : L.getD p 0 ≠ x := fun e => by
 have h1 : (L.set i x)[p]? = some x := by rw [List.getElem?_set_ne (fun e => hne e.symm), ← e]; simp [List.getD_eq_getElem?_getD, hp]
 have h2 : (L.set i x)[i]? = some x := by simp [hi]
 obtain ⟨g1, e1⟩ := List.getElem?_eq_some_iff.1 h1
 obtain ⟨g2, e2⟩ := List.getElem?_eq_some_iff.1 h2
 exact hne ((List.getElem_inj hn).1 (e1.trans e2.symm))
set_option maxHeartbeats 4000000 in
set_option maxRecDepth 10000 in
theorem rup_any (O : OrdQ) {w : World} {rp mb g cap d : Nat} {f : Int → Option Int} {L : List Nat} (hO : O.at_ w) (h : RwM w rp mb g cap d f L) (hd : 2 ≤ d ∧ d ≤ 16) (hl : L.length ≤ 65536) (i x : Nat) (hH : HoleI O.R d L i) (hP : PlHole f L i x)
  (hn : (L.set i x).Nodup) (hdom : ∀ y, y ∈ L.set i x → O.dom y) (h16 : ∀ y, y ∈ L.set i x → y ≤ 65536) (hsep : SepQ O rp mb g) :
  Calls Tryz.prog 159 #[.pointer (some ⟨rp, 0, none⟩), .iface O.ty (.pointer (some ⟨O.p, 0, none⟩)), .int .i64 (i : Int), .int .i64 (x : Int)] w fun e w' => ∃ (k : Nat) (f' : Int → Option Int) (L' : List Nat), e = .returned (.int .i64 (k : Int)) ∧ RwM w' rp mb g cap d f' L' ∧ PlOf f' L' ∧ L'.Perm (L.set i x) ∧ O.at_ w' ∧ Upd (g :: mb :: O.wr) w w' ∧
   (k = i → L' = L.set i x ∧ (i = 0 ∨ O.R (L.getD (par d i) 0) x)) ∧ (k ≠ i ∨ Below O.R d L i x → Hp O.R d L') := by
 have hi0 := hH.lt
 have hxm : x ∈ L.set i x := List.mem_of_getElem? (show (L.set i x)[i]? = some x by simp [hi0])
 have hdx := hdom x hxm
 have hxl := h16 x hxm
 have HX := Lib.hid (And.intro hn (And.intro hdom (And.intro h16 (And.intro hsep hd))))
 have hwr := hsep.wr
 go_enter Tryz.func159, Tryz.ntmps159
 go_wp2
 go_loopw [2, 9, 10] (fun iv _ _ wr => ∃ (i' : Nat) (f' : Int → Option Int) (L' : List Nat), iv = .int .i64 (i' : Int) ∧ RwM wr rp mb g cap d f' L' ∧ HoleI O.R d L' i' ∧ PlHole f' L' i' x ∧ L'.length = L.length ∧ (L'.set i' x).Perm (L.set i x) ∧ O.at_ wr ∧ Upd (g :: mb :: O.wr) w wr ∧ ((i' = i ∧ L' = L) ∨ (i' < i ∧ Below O.R d L' i' x))) (fun iv _ _ _ => (intOf iv).toNat)
 case atStart => exact ⟨i, f, L, rfl, h, hH, hP, rfl, List.Perm.refl _, hO, Upd.refl _ _, Or.inl ⟨rfl, rfl⟩⟩
 case round =>
  clear h hH hP hO
  obtain ⟨i1, f1, L1, rfl, h, hH, hP, hl1, hpm, hO, hu, hst⟩ := hrel
  rename World => wr
  have hi1 := hH.lt
  have hn1 : (L1.set i1 x).Nodup := hpm.nodup_iff.2 HX.out.1
  have kp := fun W => parent_any d i1 hd (by omega) W
  have c0 := h.h0
  have c1 := h.h1
  have hlt := h.lt
  by_cases hz : i1 = 0
  ·have ks := fun W (hW : Upd [] wr W) => rset_any (h.upd0 hW) i1 x hi1 hxl (by omega)
   have e1 : (if i1 = 0 then (0 : Int) else (par d i1 : Int)) = 0 := if_pos hz
   have e2 : decide (0 < i1) = false := by simp [hz]
   simp only [e1, e2] at kp
   have HF := Lib.hid (And.intro hH (And.intro hP (And.intro hn1 (And.intro hpm (And.intro hO (And.intro hst (And.intro hu (And.intro hl1 hz))))))))
   clear hH hP hn1 hpm hO hst hu hl1 h hz e1 e2
   go_upto_region 2 with (first
    | ((go_at_call 165; (with_reducible refine (kp _).mono ?_)); rintro e w1 ⟨rfl, hu1⟩)
    | fail)
   go_quiet (fail)
   have ks1 := ks _ (hu1.drewN nq)
   go_wp2_with (first
    | ((go_at_call 166; (with_reducible refine (ks1).mono ?_)); rintro e w2 ⟨rfl, hR, hu2⟩)
    | fail)
   go_ret
   obtain ⟨hH, hP, hn1, hpm, hO, hst, hu, hl1, hz⟩ := HF.out
   have hu3 : Upd [g, mb] wr w2 := (hu1.drewN nq).mono (by simp) |>.trans hu2
   refine ⟨i1, _, _, rfl, hR, hP.fill hi1 hn1, hpm, O.upd hO hu3 (fun y hy => by have := HX.out.2.2.2.1; simp at hy; rcases hy with rfl | rfl; exact this.c; exact this.b), hu.trans (hu3.mono (by simp +contextual)), fun e => ?_, fun e => ?_⟩
   ·rcases hst with ⟨_, rfl⟩ | ⟨h1, _⟩
    ·subst e; exact ⟨rfl, Or.inl hz⟩
    ·omega
   ·have hb : Below O.R d L1 i1 x := by
     rcases hst with ⟨e1, e2⟩ | ⟨_, h2⟩
     ·rcases e with e | e
      ·exact absurd e1 e
      ·rw [e1, e2]; exact e
     ·exact h2
    exact hH.fill hd.1 hb (Or.inl hz)
  ·obtain ⟨p, hp⟩ : ∃ p, p = par d i1 := ⟨_, rfl⟩
   have hpl : p < i1 := by rw [hp]; exact par_lt hd.1 (by omega)
   have e1 : (if i1 = 0 then (0 : Int) else (par d i1 : Int)) = (p : Int) := by rw [if_neg hz, hp]
   have e2 : decide (0 < i1) = true := by simp; omega
   simp only [e1, e2] at kp
   have hcp := h.cell p (by omega)
   have hcg := h.h1
   have hdp := HX.out.2.1 (L1.getD p 0) (hpm.mem_iff.1 (getN_mem (by omega) (by omega)))
   have hpx := getN_ne hi1 (show p < L1.length by omega) (by omega) hn1
   have ks2 := fun W (hW : Upd O.wr wr W) => rset_any (h.upd hW hwr.1 hwr.2.1 hwr.2.2) i1 (L1.getD p 0) hi1 (HX.out.2.2.1 _ (hpm.mem_iff.1 (getN_mem (by omega) (by omega)))) (by omega)
   have ks := fun W (hW : Upd O.wr wr W) => rset_any (h.upd hW hwr.1 hwr.2.1 hwr.2.2) i1 x hi1 hxl (by omega)
   have HF := Lib.hid (And.intro hH (And.intro hP (And.intro hn1 (And.intro hpm (And.intro hO (And.intro hst (And.intro hu (And.intro hl1 (And.intro hz (And.intro hp (And.intro hpx h)))))))))))
   have hi1L : (p : Int) < (L1.length : Int) := by omega
   have hrpw := hwr.1
   have hgw := hwr.2.2
   clear hH hP hn1 hpm hst hu hl1 h hz e1 e2 hp hpx hpl hwr
   generalize hy : L1.getD p 0 = y at *
   go_upto_region 2 with (first
    | ((go_at_call 165; (with_reducible refine (kp _).mono ?_)); rintro e w1 ⟨rfl, hu1⟩)
    | fail)
   have hO1 : O.On w1 w1 := .start (O.upd hO hu1 (by simp))
   have cp1 : ∀ W, O.On w1 W → W.cell? ⟨g, p, none⟩ = some (.int .i64 (y : Int)) := fun W hW => hW.upd.kept (hu1.was hcp) hgw
   have cg1 : ∀ W, O.On w1 W → W.cell? ⟨rp, 1, none⟩ = some (.slice (some ⟨g, 0, none⟩) L1.length cap) := fun W hW => hW.upd.kept (hu1.was hcg) hrpw
   have hm : ∀ W, O.On w1 W → _ := fun W hW => O.meth hW.at_
   have hnl := O.nila
   have hen := O.ent
   unfold Enters at hen
   go_region_held3 (O.On w1) (first | assumption | exact hO1 | (refine OrdQ.On.drew ?_; first | assumption | exact hO1) | (refine OrdQ.On.drewN ?_ _; first | assumption | exact hO1))
    (first
     | ((with_reducible refine (O.ask x y (OrdQ.On.at_ (w0 := w1) (by first | assumption | exact hO1 | (refine OrdQ.On.drew ?_; first | assumption | exact hO1) | (refine OrdQ.On.drewN ?_ _; first | assumption | exact hO1))) hdx hdp).mono ?_); rintro e w5 ⟨rfl, hO5, hu5⟩; (have hOn5 : O.On w1 w5 := OrdQ.On.asked (by first | assumption | exact hO1 | (refine OrdQ.On.drew ?_; first | assumption | exact hO1) | (refine OrdQ.On.drewN ?_ _; first | assumption | exact hO1)) hO5 hu5)))
   have hu5' : Upd O.wr wr w5 := (hu1.mono (by simp)).trans hOn5.upd
   have ks5 := ks w5 hu5'
   have ks6 := ks2 w5 hu5'
   have HY := Lib.hid (And.intro hy (And.intro hOn5.at_ hu5'))
   have cp5 := cp1 w5 hOn5
   have cg5 := cg1 w5 hOn5
   clear ks ks2 cp1 cg1 hm hO1 hOn5 hu5 hO5 hO hcp hcg
   cases hxy : O.lt x y with
   | false =>
    clear ks6
    go_wp2_with (first
     | ((go_at_call 166; (with_reducible refine (ks5).mono ?_)); rintro e w2 ⟨rfl, hR, hu2⟩)
     | fail)
    go_ret
    obtain ⟨hH, hP, hn1, hpm, hO, hst, hu, hl1, hz, hp, hpx, h⟩ := HF.out
    obtain ⟨hy, hat, hu5⟩ := HY.out
    have hup : O.R (L1.getD (par d i1) 0) x := by
     rw [← hp, hy]
     rcases O.total x y (fun e => hpx e.symm) with e | e
     ·rw [e] at hxy; cases hxy
     ·exact e
    refine ⟨i1, _, _, rfl, hR, hP.fill hi1 hn1, hpm, O.upd hat hu2 (fun y hy => by have := HX.out.2.2.2.1; simp at hy; rcases hy with rfl | rfl; exact this.c; exact this.b), (hu.trans (hu5.mono (by simp +contextual))).trans (hu2.mono (by simp +contextual)), fun e => ?_, fun e => ?_⟩
    ·rcases hst with ⟨_, e2⟩ | ⟨h1, _⟩
     ·rw [e2] at hup ⊢; rw [e] at hup ⊢; exact ⟨rfl, Or.inr hup⟩
     ·omega
    ·have hb : Below O.R d L1 i1 x := by
      rcases hst with ⟨e1, e2⟩ | ⟨_, h2⟩
      ·rcases e with e | e
       ·exact absurd e1 e
       ·rw [e1, e2]; exact e
      ·exact h2
     exact hH.fill hd.1 hb (Or.inr hup)
   | true =>
    clear ks5
    go_wp2_with (first
     | ((go_at_call 166; (with_reducible refine (ks6).mono ?_)); rintro e w2 ⟨rfl, hR, hu2⟩)
     | fail)
    go_roundw
    case rel =>
     obtain ⟨hH, hP, hn1, hpm, hO, hst, hu, hl1, hz, hp, hpx, h⟩ := HF.out
     obtain ⟨hy, hat, hu5⟩ := HY.out
     have hpl : p < i1 := by rw [hp]; exact par_lt hd.1 (by omega)
     have hup := hH.up O.tr hd.1 (by omega) (x := x) (by rw [← hp, hy]; exact hxy)
     rw [← hp, hy] at hup
     have hmv := hP.move hi1 (p := p) (by omega) (by omega) hn1
     rw [hy] at hmv
     have hpr := move_perm (L := L1) (i := i1) (p := p) (x := x) hi1 (by omega) (by omega)
     rw [hy] at hpr
     refine ⟨p, _, _, rfl, hR, hup.1, hmv, by rw [List.length_set]; exact hl1, hpr.trans hpm, O.upd hat hu2 (fun y hy => by have := HX.out.2.2.2.1; simp at hy; rcases hy with rfl | rfl; exact this.c; exact this.b), (hu.trans (hu5.mono (by simp +contextual))).trans (hu2.mono (by simp +contextual)), Or.inr ⟨?_, hup.2⟩⟩
     rcases hst with ⟨e, _⟩ | ⟨e, _⟩ <;> omega
    case measure =>
     have hpl : p < i1 := by rw [HF.out.2.2.2.2.2.2.2.2.2.1]; exact par_lt hd.1 (by have := HF.out.2.2.2.2.2.2.2.2.1; omega)
     simp [intOf]; omega
end Go.Proofs.YtklibcncmbofpaaGreat
namespace Go.Proofs.YtklibcncmbofpaaGreat
open Go Go.RowKit
structure FirstK (R : Nat → Nat → Prop) (d : Nat) (L : List Nat) (i k b : Nat) : Prop where
 b0 : ∃ q, b = d * i + q ∧ 1 ≤ q ∧ q < k
 lt : b < L.length
 all : ∀ q, 1 ≤ q → q < k → d * i + q < L.length → d * i + q ≠ b → R (L.getD b 0) (L.getD (d * i + q) 0)
theorem FirstK.one {R : Nat → Nat → Prop} {d : Nat} {L : List Nat} {i : Nat} (h : d * i + 1 < L.length) : FirstK R d L i 2 (d * i + 1) :=
 ⟨⟨1, rfl, by omega, by omega⟩, h, fun q h1 h2 _ hne => absurd (show d * i + q = d * i + 1 by omega) hne⟩
theorem FirstK.end {R : Nat → Nat → Prop} {d : Nat} {L : List Nat} {i k b : Nat} (h : FirstK R d L i k b) (hd : 2 ≤ d) (hk : k = d + 1) : FirstC R d L i b := by
 obtain ⟨q, rfl, h1, h2⟩ := h.b0
 have hp := (par_iff (i := i) (j := d * i + q) hd).2 (by omega)
 refine ⟨hp.1, h.lt, hp.2, fun j j0 hj hpj hne => ?_⟩
 have := (par_iff hd).1 ⟨j0, hpj⟩
 have e : j = d * i + (j - d * i) := by omega
 rw [e] at hj hne ⊢
 exact h.all _ (by omega) (by omega) hj hne
theorem FirstK.stay {R : Nat → Nat → Prop} {d : Nat} {L : List Nat} {i k b : Nat} (h : FirstK R d L i k b) (hc : d * i + k < L.length → R (L.getD b 0) (L.getD (d * i + k) 0)) : FirstK R d L i (k + 1) b := by
 obtain ⟨q, h0, h1, h2⟩ := h.b0
 refine ⟨⟨q, h0, h1, by omega⟩, h.lt, fun q' g1 g2 g3 g4 => ?_⟩
 by_cases e : q' = k
 ·subst e; exact hc g3
 ·exact h.all q' g1 (by omega) g3 g4
theorem FirstK.turn {R : Nat → Nat → Prop} {d : Nat} {L : List Nat} {i k b : Nat} (ht : ∀ a b c, R a b → R b c → R a c) (h : FirstK R d L i k b) (hk : 1 ≤ k) (hl : d * i + k < L.length) (hc : R (L.getD (d * i + k) 0) (L.getD b 0)) : FirstK R d L i (k + 1) (d * i + k) := by
 refine ⟨⟨k, rfl, hk, by omega⟩, hl, fun q' g1 g2 g3 g4 => ?_⟩
 have e : q' ≠ k := fun e => g4 (by rw [e])
 by_cases e2 : d * i + q' = b
 ·rw [e2]; exact hc
 ·exact ht _ _ _ hc (h.all q' g1 (by omega) g3 e2)
set_option maxHeartbeats 4000000 in
set_option maxRecDepth 10000 in
theorem rfirst_any (O : OrdQ) {w : World} {rp mb g cap d : Nat} {f : Int → Option Int} {L : List Nat} (hO : O.at_ w) (h : RwM w rp mb g cap d f L) (hd : 2 ≤ d ∧ d ≤ 16) (hl : L.length ≤ 65536) (i x : Nat) (hi : i < L.length)
  (hn : (L.set i x).Nodup) (hdom : ∀ y, y ∈ L.set i x → O.dom y) (hsep : SepQ O rp mb g) :
  Calls Tryz.prog 167 #[.pointer (some ⟨rp, 0, none⟩), .iface O.ty (.pointer (some ⟨O.p, 0, none⟩)), .int .i64 (i : Int)] w fun e w' => ∃ (c : Nat), e = .returned (.tuple #[.int .i64 (c : Int), .bool (decide (d * i + 1 < L.length))]) ∧ O.On w w' ∧ (d * i + 1 < L.length → FirstC O.R d L i c) := by
 have kc := fun k (hk : 1 ≤ k ∧ k ≤ d) W => child_any d i k hd (by omega) hk W
 have kc1 := kc 1 ⟨by omega, by omega⟩
 rw [show ((1 : Nat) : Int) = 1 from rfl] at kc1
 have c0 := h.h0
 have c1 := h.h1
 have hwr := hsep.wr
 have HX := Lib.hid (And.intro hO (And.intro h (And.intro hn (And.intro hdom hd))))
 have hil : i < 65536 := by omega
 generalize hnl : L.length = n at *
 have HN := Lib.hid hnl
 clear h hO hn hdom hsep hnl
 by_cases hz : n ≤ d * i + 1
 ·rw [decide_eq_false (show ¬ d * i + 1 < n by omega)]
  have hge : decide (((d * i + 1 : Nat) : Int) ≥ (n : Int)) = true := by simp; omega
  have HZ := Lib.hid hz
  clear hz kc
  generalize d * i + 1 = c at *
  go_enter Tryz.func167, Tryz.ntmps167
  have hnc : n ≤ c := HZ.out
  go_wp2_with (first
   | ((go_at_call 172; (with_reducible refine (kc1 _).mono ?_)); rintro e w1 ⟨rfl, hu1⟩; (have c1 := hu1.was c1))
   | fail)
  go_ret2
  exact ⟨0, rfl, ⟨O.upd HX.out.1 hu1 (by simp), hu1.mono (by simp)⟩, fun h => by have := HZ.out; omega⟩
 ·rw [decide_eq_true (show d * i + 1 < n by omega)]
  have hge : decide (((d * i + 1 : Nat) : Int) ≥ (n : Int)) = false := by simp; omega
  have HZ := Lib.hid (show d * i + 1 < n by omega)
  clear hz
  have HC := Lib.hid (show d * i + 1 = d * i + 1 from rfl)
  revert HC HZ hge kc1
  generalize hce0 : d * i + 1 = c0'
  intro kc1 hge HZ _
  have HC := Lib.hid hce0
  have hnc : ¬ n ≤ c0' := by have := HZ.out; omega
  go_enter Tryz.func167, Tryz.ntmps167
  clear hce0
  go_wp2_with (first
   | ((go_at_call 172; (with_reducible refine (kc1 _).mono ?_)); rintro e w1 ⟨rfl, hu1⟩; (have c1 := hu1.was c1))
   | fail)
  go_loopw [8, 10, 11, 12] (fun bv kv _ _ wr => ∃ (b k : Nat), 2 ≤ k ∧ k ≤ d + 1 ∧ bv = .int .i64 (b : Int) ∧ kv = .int .i64 (k : Int) ∧ FirstK O.R d L i k b ∧ O.On w wr) (fun _ kv _ _ _ => d + 1 - (intOf kv).toNat)
  case atStart => exact ⟨c0', 2, by omega, by omega, rfl, rfl, by rw [← HC.out]; exact FirstK.one (by have := HZ.out; have := HN.out; have := HC.out; omega), O.upd HX.out.1 hu1 (by simp), hu1.mono (by simp)⟩
  case round =>
   clear hu1 c1
   obtain ⟨b, k, hk1, hk2, rfl, rfl, hF, hon⟩ := hrel
   rename World => wr
   obtain ⟨hO, h, hn, hdom, hd⟩ := HX.out
   have hR := h.upd hon.upd hwr.1 hwr.2.1 hwr.2.2
   have q0 := hR.h0
   have q1 := hR.h1
   by_cases hkd : k ≤ d
   ·have hkd' : (k : Int) ≤ (d : Int) := by omega
    have kc2 := kc k ⟨by omega, hkd⟩
    have hwk : IntKind.i64.wrap ((k : Int) + 1) = (k : Int) + 1 := IntWalk.i64_in _ (by omega)
    rw [HN.out] at q1
    by_cases hcl : d * i + k < n
    ·have hne : d * i + k ≠ i := by
      have : i ≤ d * i := Nat.le_mul_of_pos_left _ (by omega)
      omega
     obtain ⟨qb, hqb, hqb1, hqb2⟩ := hF.b0
     have hbl := hF.lt
     have hbi : b ≠ i := by
      have : i ≤ d * i := Nat.le_mul_of_pos_left _ (by omega)
      omega
     have hdc := hdom _ (getN_mem (x := x) (show d * i + k < L.length by rw [HN.out]; exact hcl) hne)
     have hdb := hdom _ (getN_mem (x := x) hbl hbi)
     have hcb : L.getD (d * i + k) 0 ≠ L.getD b 0 := fun e => by
      have h1 : (L.set i x)[d * i + k]? = some (L.getD b 0) := by rw [List.getElem?_set_ne (fun e => hne e.symm), ← e, List.getD_eq_getElem?_getD, List.getElem?_eq_getElem (by rw [HN.out]; exact hcl)]; rfl
      have h2 : (L.set i x)[b]? = some (L.getD b 0) := by rw [List.getElem?_set_ne (fun e => hbi e.symm), List.getD_eq_getElem?_getD, List.getElem?_eq_getElem hbl]; rfl
      obtain ⟨g1, e1⟩ := List.getElem?_eq_some_iff.1 h1
      obtain ⟨g2, e2⟩ := List.getElem?_eq_some_iff.1 h2
      have := (List.getElem_inj hn).1 (e1.trans e2.symm)
      omega
     have d1 := hR.cell (d * i + k) (by rw [HN.out]; exact hcl)
     have d2 := hR.cell b hbl
     have HY := Lib.hid (And.intro hF (And.intro hon (And.intro hcb (And.intro hcl hk2))))
     have hgL : decide (((d * i + k : Nat) : Int) < (n : Int)) = true := by simp; omega
     have hcI : ((d * i + k : Nat) : Int) < (n : Int) := by omega
     have hbI : (b : Int) < (n : Int) := by rw [HN.out] at hbl; omega
     have hrpw := hwr.1
     have hgw := hwr.2.2
     have hat := hon.at_
     have hkl : k + 1 ≤ d + 1 := by omega
     clear hF hon hqb hqb1 hqb2 hbl hbi hcl hne hO h hn hdom hR hcb kc
     generalize hce : d * i + k = c at *
     generalize hx1 : L.getD c 0 = xc at *
     generalize hx2 : L.getD b 0 = xb at *
     have HE := Lib.hid (And.intro hce (And.intro hx1 hx2))
     clear hce hx1 hx2
     go_upto_region 8 with (first
      | ((go_at_call 172; (with_reducible refine (kc2 _).mono ?_)); rintro e w1 ⟨rfl, hu1⟩)
      | fail)
     have hO1 : O.On w1 w1 := .start (O.upd hat hu1 (by simp))
     have cp1 : ∀ W, O.On w1 W → W.cell? ⟨g, c, none⟩ = some (.int .i64 (xc : Int)) := fun W hW => hW.upd.kept (hu1.was d1) hgw
     have cb1 : ∀ W, O.On w1 W → W.cell? ⟨g, b, none⟩ = some (.int .i64 (xb : Int)) := fun W hW => hW.upd.kept (hu1.was d2) hgw
     have cg1 : ∀ W, O.On w1 W → W.cell? ⟨rp, 1, none⟩ = some (.slice (some ⟨g, 0, none⟩) n cap) := fun W hW => hW.upd.kept (hu1.was q1) hrpw
     have hm : ∀ W, O.On w1 W → _ := fun W hW => O.meth hW.at_
     have hnl := O.nila
     have hen := O.ent
     unfold Enters at hen
     go_region_held3 (O.On w1) (first | assumption | exact hO1 | (refine OrdQ.On.drew ?_; first | assumption | exact hO1) | (refine OrdQ.On.drewN ?_ _; first | assumption | exact hO1))
      (first
       | ((with_reducible refine (O.ask xc xb (OrdQ.On.at_ (w0 := w1) (by first | assumption | exact hO1 | (refine OrdQ.On.drew ?_; first | assumption | exact hO1) | (refine OrdQ.On.drewN ?_ _; first | assumption | exact hO1))) hdc hdb).mono ?_); rintro e w5 ⟨rfl, hO5, hu5⟩; (have hOn5 : O.On w1 w5 := OrdQ.On.asked (by first | assumption | exact hO1 | (refine OrdQ.On.drew ?_; first | assumption | exact hO1) | (refine OrdQ.On.drewN ?_ _; first | assumption | exact hO1)) hO5 hu5)))
     have HZ2 := Lib.hid (hu1.mono (by simp : ∀ z, z ∈ [] → z ∈ O.wr) |>.trans hOn5.upd)
     have HO5 := Lib.hid hOn5.at_
     clear cp1 cb1 cg1 hm hO1 hOn5 hu5 hO5 d1 d2 q0 q1
     cases hxy : O.lt xc xb with
     | false =>
      go_wp2
      go_roundw
      case rel =>
       obtain ⟨hF, hon, hcb, hcl, hk2⟩ := HY.out
       refine ⟨b, k + 1, by omega, hkl, rfl, by go_num, hF.stay (fun _ => ?_), HO5.out, hon.upd.trans HZ2.out⟩
       rw [HE.out.1, HE.out.2.1, HE.out.2.2]
       rcases O.total xc xb (fun e => by rw [e] at hcb; exact hcb rfl) with e | e
       ·rw [e] at hxy; cases hxy
       ·exact e
      case measure => simp [intOf]; omega
     | true =>
      go_wp2
      go_roundw
      case rel =>
       obtain ⟨hF, hon, hcb, hcl, hk2⟩ := HY.out
       refine ⟨c, k + 1, by omega, hkl, rfl, by go_num, ?_, HO5.out, hon.upd.trans HZ2.out⟩
       have ht := hF.turn O.tr (by omega) (by rw [HE.out.1, HN.out]; exact hcl) (by rw [HE.out.1, HE.out.2.1, HE.out.2.2]; exact hxy)
       rw [HE.out.1] at ht
       exact ht
      case measure => simp [intOf]; omega
    ·have hgL : decide (((d * i + k : Nat) : Int) < (n : Int)) = false := by simp; omega
     have HY := Lib.hid (And.intro hF (And.intro hon hcl))
     have hkl : k + 1 ≤ d + 1 := by omega
     clear hF hon hcl hO h hn hdom hR kc
     generalize hce : d * i + k = c at *
     have HE := Lib.hid hce
     clear hce
     have hgN : decide (c < n) = false := by simp at hgL ⊢; omega
     go_upto_region 8 with (first
      | ((go_at_call 172; (with_reducible refine (kc2 _).mono ?_)); rintro e w1 ⟨rfl, hu1⟩; (have q1 := hu1.was q1); (have q0 := hu1.was q0))
      | fail)
     go_quiet (fail)
     go_wp2
     go_roundw
     case rel =>
      obtain ⟨hF, hon, hcl⟩ := HY.out
      exact ⟨b, k + 1, by omega, hkl, rfl, by go_num, hF.stay (fun h => absurd h (by have := HN.out; have := HE.out; omega)), O.upd hon.at_ (hu1.drewN nq) (by simp), hon.upd.trans ((hu1.drewN nq).mono (by simp))⟩
     case measure => simp [intOf]; omega
   ·have hkd' : ¬ (k : Int) ≤ (d : Int) := by omega
    clear kc
    go_wp2
    exact bodyPost_ret (v := .tuple #[.int .i64 (b : Int), .bool true]) (by simp [results, Tryz.results167, go_sem]) rfl ⟨b, rfl, hon, fun _ => hF.end hd.1 (by omega)⟩
end Go.Proofs.YtklibcncmbofpaaGreat
namespace Go.Proofs.YtklibcncmbofpaaGreat
open Go Go.RowKit
section
variable {R : Nat → Nat → Prop} {L : List Nat} {i : Nat}
theorem HoleI.any {d : Nat} (hd : 2 ≤ d) (h : HoleI R d L i) (y : Nat) : HoleI R d (L.set i y) i := by
 have g : ∀ k, k ≠ i → (L.set i y).getD k 0 = L.getD k 0 := fun k hk => by rw [getN_set, if_neg (fun e => hk e.1)]
 refine ⟨by rw [List.length_set]; exact h.lt, fun j j0 hj hji hp => ?_, fun j j0 hj hp hi0 => ?_⟩
 ·rw [List.length_set] at hj
  rw [g _ hji, g _ hp]; exact h.a j j0 hj hji hp
 ·rw [List.length_set] at hj
  have h1 := par_lt hd j0
  have h2 := par_lt hd hi0
  rw [g _ (by omega), g _ (by omega)]; exact h.b j j0 hj hp hi0
theorem below_first {d x c : Nat} (ht : ∀ a b c, R a b → R b c → R a c) (hc : FirstC R d L i c) (hx : R x (L.getD c 0)) : Below R d L i x := fun j j0 hj hp => by
 by_cases e : j = c
 ·rw [e]; exact hx
 ·exact ht _ _ _ hx (hc.all j j0 hj hp e)
theorem below_none {d x : Nat} (hd : 2 ≤ d) (h : L.length ≤ d * i + 1) : Below R d L i x := fun j j0 hj hp => by
 have := (par_iff hd).1 ⟨j0, hp⟩
 omega
theorem Hp.take {d n : Nat} (h : Hp R d L) (hd : 2 ≤ d) : Hp R d (L.take n) := fun j j0 hj => by
 simp only [List.length_take] at hj
 have hp := par_lt hd j0
 have g : ∀ k, k < n → (L.take n).getD k 0 = L.getD k 0 := fun k hk => by simp [List.getD_eq_getElem?_getD, List.getElem?_take, hk]
 rw [g _ (by omega), g _ (by omega)]
 exact h j j0 (by omega)
theorem Hp.snoc {d x : Nat} (h : Hp R d L) (ht : ∀ a b c, R a b → R b c → R a c) (hd : 2 ≤ d) : HoleI R d (L ++ [x]) L.length ∧ Below R d (L ++ [x]) L.length x := by
 have g : ∀ k, k < L.length → (L ++ [x]).getD k 0 = L.getD k 0 := fun k hk => by simp [List.getD_eq_getElem?_getD, List.getElem?_append_left, hk]
 have hno : ∀ j, 0 < j → j < (L ++ [x]).length → par d j = L.length → False := fun j j0 hj hp => by
  simp at hj
  have := par_lt hd j0
  omega
 refine ⟨⟨by simp, fun j j0 hj hji hp => ?_, fun j j0 hj hp _ => (hno j j0 hj hp).elim⟩, fun j j0 hj hp => (hno j j0 hj hp).elim⟩
 simp at hj
 have := par_lt hd j0
 rw [g _ (by omega), g _ (by omega)]
 exact h j j0 (by omega)
end
end Go.Proofs.YtklibcncmbofpaaGreat
