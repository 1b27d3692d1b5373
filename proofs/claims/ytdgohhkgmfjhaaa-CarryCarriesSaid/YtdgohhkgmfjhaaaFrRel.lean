/-
  The program's forest and the document's say the same: plain. Conditions: those of each lemma.
-/
import Derived.Test.YtdgohhkgmfjhaaaFr5
import Derived.Test.YtdgohhkgmfjhaaaCarryLaw
set_option linter.unusedVariables false
set_option linter.unusedSimpArgs false
namespace Go.Proofs.Ytdgohhkgmfjhaaa

def RelZ (n : Nat) (F : CF) (Z : List (List Int)) : Prop := Z.length = n ∧ ∀ x, x < n → Z[x]? = some (F.k x)
def upF (n : Nat) (F : CF) (x : Int) : Option Int := if 0 ≤ x ∧ x < n then (if F.u x.toNat = -1 then none else some (F.u x.toNat)) else none
theorem upO_f (n : Nat) (S : CS) (x : Int) : upO n S x = upF n S.f x := rfl
theorem RelZ.getD {n : Nat} {F : CF} {Z : List (List Int)} (h : RelZ n F Z) {x : Nat} (hx : x < n) : Z.getD x [] = F.k x := by
  rw [List.getD_eq_getElem?_getD, h.2 x hx]; rfl
theorem RelZ.get {n : Nat} {F : CF} {Z : List (List Int)} (h : RelZ n F Z) {x : Nat} (hx : x < Z.length) : Z[x] = F.k x := by
  have := h.2 x (by rw [← h.1]; exact hx)
  rw [List.getElem?_eq_getElem hx] at this
  exact Option.some.inj this
theorem rel_up {n : Nat} {F : CF} {Z : List (List Int)} (h : RelZ n F Z) (ok : FOk n F) (x : Int) : upZ Z x = upF n F x := by
  have none_of : (∀ p, p < n → x ∉ F.k p) → upZ Z x = none := fun hn => by
    have hf : Z.findIdx? (fun l => decide (x ∈ l)) = none := by
      rw [List.findIdx?_eq_none_iff]
      intro l hl
      obtain ⟨j, hj, rfl⟩ := List.getElem_of_mem hl
      rw [h.get hj]
      simpa using hn j (by rw [← h.1]; exact hj)
    unfold upZ
    rw [hf]; rfl
  unfold upF
  by_cases hx : 0 ≤ x ∧ x < n
  · rw [if_pos hx]
    obtain ⟨y, rfl⟩ := Int.eq_ofNat_of_zero_le hx.1
    have hy : y < n := by omega
    rw [Int.toNat_natCast]
    rcases ok.up y hy with hu | ⟨p, hp, hu, hm⟩
    · rw [if_pos hu]
      refine none_of (fun p hp hm => ?_)
      have := (ok.rng p hp _ hm).2.2
      rw [Int.toNat_natCast] at this
      omega
    · rw [if_neg (by omega), hu]
      have hpz : p < Z.length := by rw [h.1]; exact hp
      have hf := findIdx_here (p := fun l => decide ((y : Int) ∈ l)) hpz (by rw [h.get hpz]; simpa using hm) (fun j hj => by
        have hjz : j < Z.length := by omega
        rw [h.get hjz]
        have : (y : Int) ∉ F.k j := fun hm2 => by
          have := (ok.rng j (by omega) _ hm2).2.2
          rw [Int.toNat_natCast] at this
          omega
        simpa using this)
      unfold upZ
      rw [hf]; rfl
  · rw [if_neg hx]
    exact none_of (fun p hp hm => hx (by have := ok.rng p hp x hm; omega))
theorem rel_root {n : Nat} {F : CF} {Z : List (List Int)} (h : RelZ n F Z) (ok : FOk n F) (x : Int) : rootZ Z x = rootF n F x := by
  unfold rootZ rootF
  rw [rel_up h ok, h.1]
  unfold upF
  by_cases hx : 0 ≤ x ∧ x < n
  · rw [if_pos hx]
    by_cases hu : F.u x.toNat = -1
    · rw [if_pos hu]; simp [hu]
    · rw [if_neg hu]; simp [hu]
  · rw [decide_eq_false hx]; rfl
theorem rel_kids {n : Nat} {S : CS} {Z : List (List Int)} (h : RelZ n S.f Z) (x : Int) : kidsZ Z x = kidsOf n S x := by
  unfold kidsZ kidsOf
  rw [h.1]
  by_cases hx : 0 ≤ x ∧ x < n
  · rw [if_pos hx, if_pos hx, h.getD (by omega)]; rfl
  · rw [if_neg hx, if_neg hx]
theorem rel_cube {n : Nat} {F : CF} {Z : List (List Int)} (h : RelZ n F Z) (ok : FOk n F) : CubeZ Z := by
  intro x l hx i z hz
  have hxl : x < Z.length := (List.getElem?_eq_some_iff.1 hx).1
  have hxn : x < n := by rw [← h.1]; exact hxl
  have hl : l = F.k x := by
    have := h.2 x hxn
    rw [hx] at this
    exact Option.some.inj this
  subst hl
  obtain ⟨h1, h2, _⟩ := ok.rng x hxn z (List.mem_of_getElem? hz)
  have hy : z.toNat < Z.length := by rw [h.1]; omega
  exact ⟨z.toNat, hy, by omega, by rw [h.get hy]; exact ok.cube x hxn i z hz⟩
theorem rel_set {n : Nat} {F F' : CF} {Z : List (List Int)} (h : RelZ n F Z) (x : Nat) (l : List Int) (hx : x < n) (h1 : F'.k x = l) (h2 : ∀ y, y < n → y ≠ x → F'.k y = F.k y) : RelZ n F' (Z.set x l) := by
  refine ⟨by rw [List.length_set]; exact h.1, fun y hy => ?_⟩
  by_cases e : y = x
  · subst e; rw [List.getElem?_set_self (by rw [h.1]; exact hy), h1]
  · rw [List.getElem?_set_ne (fun e2 => e e2.symm), h.2 y hy, h2 y hy e]
theorem rel_none (n : Nat) : RelZ n CS.none.f (List.replicate n []) := ⟨by simp, fun x hx => by simp [hx, CS.none, CS.f]⟩
theorem rel_link {n : Nat} {F : CF} {Z : List (List Int)} (h : RelZ n F Z) {a b : Nat} (ha : a < n) : RelZ n (linkF F a b) (Z.set a (Z.getD a [] ++ [(b : Int)])) :=
  rel_set h a _ ha (by rw [h.getD ha]; unfold linkF; simp) (fun y _ hy => by unfold linkF; simp [hy])

/-- A root's children come off. -/
theorem FOk.split {n : Nat} {S : CS} (h : FOk n S.f) {x : Nat} (hx : x < n) (hr : S.u x = -1) : FOk n (splitS S x).f := by
  have nx : ∀ z, z < n → (x : Int) ∉ S.k z := fun z hz hm => by
    have := (h.rng z hz _ hm).2.2
    rw [Int.toNat_natCast] at this
    have e : S.f.u x = S.u x := rfl
    omega
  have uk : ∀ y z, y < n → z < n → (y : Int) ∈ S.k z → S.u y = z := fun y z hy hz hm => by
    have := (h.rng z hz _ hm).2.2
    rwa [Int.toNat_natCast] at this
  refine ⟨fun z hz y hy => ?_, fun z hz => ?_, fun y hy => ?_, fun z hz i w hw => ?_⟩
  · show 0 ≤ y ∧ y < n ∧ (if ((y.toNat : Nat) : Int) ∈ S.k x then (-1 : Int) else S.u y.toNat) = z
    have hy' : y ∈ (if z = x then ([] : List Int) else S.k z) := hy
    by_cases e : z = x
    · rw [if_pos e] at hy'; cases hy'
    · rw [if_neg e] at hy'
      obtain ⟨h1, h2, h3⟩ := h.rng z hz y hy'
      refine ⟨h1, h2, ?_⟩
      rw [if_neg (fun hm => ?_)]
      · exact h3
      · have := uk y.toNat x (by omega) hx hm
        have e3 : S.f.u y.toNat = S.u y.toNat := rfl
        omega
  · show (if z = x then ([] : List Int) else S.k z).Nodup
    split
    · exact List.nodup_nil
    · exact h.nd z hz
  · show (if (y : Int) ∈ S.k x then (-1 : Int) else S.u y) = -1 ∨ ∃ p : Nat, p < n ∧ (if (y : Int) ∈ S.k x then (-1 : Int) else S.u y) = p ∧ (y : Int) ∈ (if p = x then ([] : List Int) else S.k p)
    by_cases hm : (y : Int) ∈ S.k x
    · rw [if_pos hm]; exact Or.inl rfl
    · rw [if_neg hm]
      rcases h.up y hy with h1 | ⟨p, hp, h1, h2⟩
      · exact Or.inl h1
      · refine Or.inr ⟨p, hp, h1, ?_⟩
        rw [if_neg (fun e => by subst e; exact hm h2)]; exact h2
  · have hw' : (if z = x then ([] : List Int) else S.k z)[i]? = some w := hw
    show (if w.toNat = x then ([] : List Int) else S.k w.toNat).length = i
    by_cases e : z = x
    · rw [if_pos e] at hw'; simp at hw'
    · rw [if_neg e] at hw'
      have hm := List.mem_of_getElem? hw'
      have hr := h.rng z hz w hm
      rw [if_neg (fun e2 => nx z hz (by rw [← e2, show ((w.toNat : Nat) : Int) = w by omega]; exact hm))]
      exact h.cube z hz i w hw'
theorem rel_split {n : Nat} {S : CS} {Z : List (List Int)} (h : RelZ n S.f Z) {x : Nat} (hx : x < n) : RelZ n (splitS S x).f (Z.set x []) :=
  rel_set h x _ hx (by show (if x = x then ([] : List Int) else S.k x) = []; rw [if_pos rfl]) (fun y _ hy => by show (if y = x then ([] : List Int) else S.k y) = S.k y; rw [if_neg hy])
theorem put_set {l : List Int} (h : l.Nodup) (x y : Int) (hx : x ∈ l) : putL l x y = setAt l x y := by
  obtain ⟨i, hi, he, hxi⟩ := idx_mem l x hx
  unfold putL setAt
  rw [he, Int.toNat_natCast]
  apply List.ext_getElem (by simp)
  intro j h1 h2
  rw [List.getElem_map, List.getElem_set]
  have hil : l[i] = x := (List.getElem?_eq_some_iff.1 hxi).2
  by_cases e : i = j
  · subst e; rw [if_pos hil, if_pos rfl]
  · rw [if_neg e, if_neg (fun e2 => e ?_)]
    have hj : j < l.length := by simpa using h1
    have hp := List.pairwise_iff_getElem.1 (List.nodup_iff_pairwise_ne.1 h)
    rcases Nat.lt_trichotomy i j with h' | h' | h'
    · exact absurd (hil.trans e2.symm) (hp i j hi hj h')
    · exact h'
    · exact absurd (e2.trans hil.symm) (hp j i hj hi h')
theorem mem_setAt {l : List Int} (h : l.Nodup) {x y z : Int} (hx : x ∈ l) : z ∈ setAt l x y ↔ z = y ∨ (z ∈ l ∧ z ≠ x) := by
  rw [← put_set h x y hx]
  unfold putL
  rw [List.mem_map]
  constructor
  · rintro ⟨w, hw, rfl⟩
    by_cases e : w = x
    · rw [if_pos e]; exact Or.inl rfl
    · rw [if_neg e]; exact Or.inr ⟨hw, e⟩
  · rintro (rfl | ⟨h1, h2⟩)
    · exact ⟨x, hx, by rw [if_pos rfl]⟩
    · exact ⟨z, h1, by rw [if_neg h2]⟩
theorem at_setAt {l : List Int} (h : l.Nodup) {x y z : Int} (hx : x ∈ l) {i : Nat} (hz : (setAt l x y)[i]? = some z) : (l[i]? = some x ∧ z = y) ∨ (l[i]? = some z ∧ z ≠ x) := by
  rw [← put_set h x y hx] at hz
  unfold putL at hz
  rw [List.getElem?_map] at hz
  cases hq : l[i]? with
  | none => rw [hq] at hz; cases hz
  | some w =>
    rw [hq] at hz
    simp at hz
    by_cases e : w = x
    · rw [if_pos e] at hz; subst e; exact Or.inl ⟨rfl, hz.symm⟩
    · rw [if_neg e] at hz; subst hz; exact Or.inr ⟨rfl, e⟩
theorem setAt_nodup {l : List Int} (h : l.Nodup) {x y : Int} (hx : x ∈ l) (hy : y ∉ l) : (setAt l x y).Nodup := by
  rw [← put_set h x y hx]
  unfold putL
  rw [List.nodup_iff_pairwise_ne, List.pairwise_map]
  refine (List.nodup_iff_pairwise_ne.1 h).imp_of_mem (fun {a b} ha hb hab => ?_)
  by_cases e1 : a = x
  · rw [if_pos e1]
    by_cases e2 : b = x
    · exact absurd (e1.trans e2.symm) hab
    · rw [if_neg e2]; intro e; subst e; exact hy hb
  · rw [if_neg e1]
    by_cases e2 : b = x
    · rw [if_pos e2]; intro e; subst e; exact hy ha
    · rw [if_neg e2]; exact hab

theorem FOk.lift {n : Nat} {S : CS} (h : FOk n S.f) {x p : Nat} {above : Int} (ok : LiftOk n S x p above) : FOk n (liftS S x p above).f := by
  have hx := ok.hx
  have hp := ok.hp
  have hne := ok.ne
  have uk : ∀ y z : Nat, y < n → z < n → (y : Int) ∈ S.k z → S.u y = z := fun y z hy hz hm => by
    have := (h.rng z hz _ hm).2.2
    rwa [Int.toNat_natCast] at this
  have rg : ∀ z, z < n → ∀ w, w ∈ S.k z → ∃ y : Nat, w = y ∧ y < n ∧ S.u y = z := fun z hz w hw => by
    obtain ⟨h1, h2, h3⟩ := h.rng z hz w hw
    exact ⟨w.toNat, by omega, by omega, h3⟩
  have dg : ∀ y z : Nat, z < n → (y : Int) ∈ S.k z → (S.k y).length < (S.k z).length := fun y z hz hm => by
    obtain ⟨i, hi, he⟩ := List.getElem_of_mem hm
    have hge : (S.k z)[i]? = some (y : Int) := by rw [List.getElem?_eq_getElem hi, he]
    have := h.cube z hz i (y : Int) hge
    rw [Int.toNat_natCast] at this
    have this' : (S.k y).length = i := this
    have hi' : i < (S.k z).length := hi
    omega
  have pk : (p : Int) ∉ S.k p := h.self hp
  have px : (p : Int) ∉ S.k x := fun hm => by
    have h1 := dg p x hx hm
    have h2 := dg x p hp ok.mem
    omega
  have ux : S.u x = p := ok.up
  have up : S.u p = above := ok.ab
  have nd := h.nd p hp
  -- where above is a thing
  have top : ∀ q : Nat, (q : Int) = above → q < n ∧ q ≠ x ∧ q ≠ p ∧ (p : Int) ∈ S.k q := fun q hq => by
    rcases ok.top with e | ⟨q', e, h1, h2, h3, h4⟩
    · omega
    · obtain rfl : q = q' := by omega
      exact ⟨h1, h2, h3, h4⟩
  have K : ∀ z : Nat, (liftS S x p above).f.k z = if z = x then setAt (S.k p) x p else if z = p then S.k x else if (z : Int) = above then setAt (S.k z) p x else S.k z := fun z => rfl
  have U : ∀ z : Nat, (liftS S x p above).f.u z = if z = x then above else if (z : Int) ∈ S.k x then (p : Int) else if (z : Int) ∈ setAt (S.k p) x p then (x : Int) else S.u z := fun z => rfl
  have mo : ∀ z : Int, z ∈ setAt (S.k p) x p ↔ z = p ∨ (z ∈ S.k p ∧ z ≠ x) := fun z => mem_setAt nd ok.mem
  -- degrees
  have D : ∀ y : Nat, ((liftS S x p above).f.k y).length = if y = x then (S.k p).length else if y = p then (S.k x).length else (S.k y).length := fun y => by
    rw [K]
    split
    · rw [setAt_len]
    · split
      · rfl
      · split
        · rw [setAt_len]
        · rfl
  have U1 : ∀ y : Nat, y < n → (y : Int) ∈ S.k x → (liftS S x p above).f.u y = p := fun y hy hm => by
    rw [U, if_neg (fun e => by subst e; exact h.self hx hm), if_pos hm]
  have U2 : ∀ y : Nat, y < n → (y : Int) ∈ setAt (S.k p) x p → (liftS S x p above).f.u y = x := fun y hy hm => by
    rcases (mo y).1 hm with e | ⟨h1, h2⟩
    · obtain rfl : y = p := by omega
      rw [U, if_neg (Ne.symm hne), if_neg px, if_pos hm]
    · rw [U, if_neg (fun e => h2 (by rw [e])), if_neg (fun hm2 => by have := uk y x hy hx hm2; have := uk y p hy hp h1; omega), if_pos hm]
  have U3 : ∀ y : Nat, y < n → y ≠ x → y ≠ p → S.u y ≠ x → S.u y ≠ p → (liftS S x p above).f.u y = S.u y := fun y hy h1 h2 h3 h4 => by
    rw [U, if_neg h1, if_neg (fun hm => h3 (uk y x hy hx hm)), if_neg (fun hm => by
      rcases (mo y).1 hm with e | ⟨h5, _⟩
      · omega
      · exact h4 (uk y p hy hp h5))]
  refine ⟨fun z hz w hw => ?_, fun z hz => ?_, fun y hy => ?_, fun z hz i w hw => ?_⟩
  · rw [K] at hw
    split at hw
    · rename_i e; subst e
      have hwm := hw
      rcases (mo w).1 hw with rfl | ⟨h1, h2⟩
      · exact ⟨by omega, by omega, by rw [Int.toNat_natCast]; exact U2 p hp hwm⟩
      · obtain ⟨y, rfl, hy, _⟩ := rg p hp w h1
        exact ⟨by omega, by omega, by rw [Int.toNat_natCast]; exact U2 y hy hwm⟩
    · rename_i hzx
      split at hw
      · rename_i e; subst e
        obtain ⟨y, rfl, hy, _⟩ := rg x hx w hw
        exact ⟨by omega, by omega, by rw [Int.toNat_natCast]; exact U1 y hy hw⟩
      · rename_i hzp
        split at hw
        · rename_i e
          obtain ⟨_, _, _, hm⟩ := top z e
          rcases (mem_setAt (h.nd z hz) hm).1 hw with rfl | ⟨h1, h2⟩
          · exact ⟨by omega, by omega, by rw [Int.toNat_natCast, U, if_pos rfl]; exact e.symm⟩
          · obtain ⟨y, rfl, hy, hu⟩ := rg z hz w h1
            have hyx : y ≠ x := fun e => by subst e; omega
            exact ⟨by omega, by omega, by rw [Int.toNat_natCast, U3 y hy hyx (fun e => h2 (by rw [e])) (by omega) (by omega)]; exact hu⟩
        · rename_i hza
          obtain ⟨y, rfl, hy, hu⟩ := rg z hz w hw
          have hyx : y ≠ x := fun e => by subst e; omega
          have hyp : y ≠ p := fun e => by subst e; omega
          exact ⟨by omega, by omega, by rw [Int.toNat_natCast, U3 y hy hyx hyp (by omega) (by omega)]; exact hu⟩
  · rw [K]
    split
    · exact setAt_nodup nd ok.mem pk
    · split
      · exact h.nd x hx
      · split
        · rename_i e
          obtain ⟨h1, h2, h3, hm⟩ := top z e
          exact setAt_nodup (h.nd z hz) hm (fun hm2 => by have := uk x z hx hz hm2; omega)
        · exact h.nd z hz
  · by_cases hyx : y = x
    · subst hyx
      rw [U, if_pos rfl]
      rcases ok.top with e | ⟨q, e, h1, h2, h3, h4⟩
      · exact Or.inl e
      · refine Or.inr ⟨q, h1, e, ?_⟩
        rw [K, if_neg h2, if_neg h3, if_pos e.symm]
        exact (mem_setAt (h.nd q h1) h4).2 (Or.inl rfl)
    · by_cases hm1 : (y : Int) ∈ S.k x
      · refine Or.inr ⟨p, hp, U1 y hy hm1, ?_⟩
        rw [K, if_neg (Ne.symm hne), if_pos rfl]; exact hm1
      · by_cases hm2 : (y : Int) ∈ setAt (S.k p) x p
        · refine Or.inr ⟨x, hx, U2 y hy hm2, ?_⟩
          rw [K, if_pos rfl]; exact hm2
        · have e : (liftS S x p above).f.u y = S.u y := by rw [U, if_neg hyx, if_neg hm1, if_neg hm2]
          rw [e]
          rcases h.up y hy with h1 | ⟨r, hr, h1, h2⟩
          · exact Or.inl h1
          · refine Or.inr ⟨r, hr, h1, ?_⟩
            have hrx : r ≠ x := fun e => by subst e; exact hm1 h2
            have hrp : r ≠ p := fun e => by subst e; exact hm2 ((mo y).2 (Or.inr ⟨h2, fun e => hyx (by omega)⟩))
            rw [K, if_neg hrx, if_neg hrp]
            split
            · rename_i e
              obtain ⟨_, _, _, hm⟩ := top r e
              exact (mem_setAt (h.nd r hr) hm).2 (Or.inr ⟨h2, fun e2 => hm2 ((mo y).2 (Or.inl e2))⟩)
            · exact h2
  · have other : ∀ (z : Nat) (w : Int), z < n → z ≠ x → (S.k z)[i]? = some w → w ≠ p → w ≠ x → ((liftS S x p above).f.k w.toNat).length = i := fun z w hz _ hw h1 h2 => by
      obtain ⟨y, rfl, hy, _⟩ := rg z hz w (List.mem_of_getElem? hw)
      rw [Int.toNat_natCast, D, if_neg (fun e => h2 (by rw [e])), if_neg (fun e => h1 (by rw [e]))]
      have := h.cube z hz i (y : Int) hw
      rwa [Int.toNat_natCast] at this
    have xi : ∀ i, (S.k p)[i]? = some (x : Int) → (S.k x).length = i := fun i hi => by
      have := h.cube p hp i (x : Int) hi
      rwa [Int.toNat_natCast] at this
    rw [K] at hw
    split at hw
    · rename_i e; subst e
      rcases at_setAt nd ok.mem hw with ⟨h1, rfl⟩ | ⟨h1, h2⟩
      · rw [Int.toNat_natCast, D, if_neg (Ne.symm hne), if_pos rfl]; exact xi i h1
      · exact other p w hp (Ne.symm hne) h1 (fun e => pk (by rw [← e]; exact List.mem_of_getElem? h1)) h2
    · rename_i hzx
      split at hw
      · rename_i e; subst e
        have hm := List.mem_of_getElem? hw
        obtain ⟨y, rfl, hy, _⟩ := rg x hx w hm
        rw [Int.toNat_natCast, D, if_neg (fun e => by subst e; exact h.self hx hm), if_neg (fun e => by subst e; exact px hm)]
        have := h.cube x hx i (y : Int) hw
        rwa [Int.toNat_natCast] at this
      · rename_i hzp
        split at hw
        · rename_i e
          obtain ⟨_, _, _, hm⟩ := top z e
          rcases at_setAt (h.nd z hz) hm hw with ⟨h1, rfl⟩ | ⟨h1, h2⟩
          · rw [Int.toNat_natCast, D, if_pos rfl]
            have := h.cube z hz i (p : Int) h1
            rwa [Int.toNat_natCast] at this
          · exact other z w hz hzx h1 h2 (fun e2 => by have := uk x z hx hz (by rw [← e2]; exact List.mem_of_getElem? h1); omega)
        · rename_i hza
          have hm := List.mem_of_getElem? hw
          exact other z w hz hzx hw (fun e2 => by have := uk p z hp hz (by rw [← e2]; exact hm); omega) (fun e2 => by have := uk x z hx hz (by rw [← e2]; exact hm); omega)
theorem rel_lift {n : Nat} {S : CS} {Z : List (List Int)} (R : RelZ n S.f Z) (h : FOk n S.f) {x p : Nat} {above : Int} (ok : LiftOk n S x p above) :
    RelZ n (liftS S x p above).f (match upZ Z p with | some q => (liftZ1 Z x p).set q.toNat (putL (Z.getD q.toNat []) p x) | none => liftZ1 Z x p) := by
  have hx := ok.hx
  have hp := ok.hp
  have K : ∀ z : Nat, (liftS S x p above).f.k z = if z = x then setAt (S.k p) x p else if z = p then S.k x else if (z : Int) = above then setAt (S.k z) p x else S.k z := fun z => rfl
  have hu : upZ Z p = if above = -1 then none else some above := by
    rw [rel_up R h]
    unfold upF
    rw [if_pos (by omega), Int.toNat_natCast, show S.f.u p = above from ok.ab]
  have e1 : putL (Z.getD p []) x p = setAt (S.k p) x p := by rw [R.getD hp]; exact put_set (h.nd p hp) _ _ ok.mem
  have base : liftZ1 Z x p = (Z.set x (setAt (S.k p) x p)).set p (S.k x) := by unfold liftZ1; rw [e1, R.getD hx]; rfl
  have get1 : ∀ y, y < n → (liftZ1 Z x p)[y]? = some (if y = x then setAt (S.k p) x p else if y = p then S.k x else S.k y) := fun y hy => by
    rw [base]
    by_cases h1 : y = p
    · subst h1
      rw [List.getElem?_set_self (by rw [List.length_set, R.1]; exact hy), if_neg (Ne.symm ok.ne), if_pos rfl]
    · rw [List.getElem?_set_ne (fun e => h1 e.symm)]
      by_cases h2 : y = x
      · subst h2; rw [List.getElem?_set_self (by rw [R.1]; exact hy), if_pos rfl]
      · rw [List.getElem?_set_ne (fun e => h2 e.symm), if_neg h2, if_neg h1, R.2 y hy]; rfl
  have len1 : (liftZ1 Z x p).length = n := by unfold liftZ1; rw [List.length_set, List.length_set]; exact R.1
  rcases ok.top with e | ⟨q, e, hq, hqx, hqp, hqm⟩
  · rw [hu, if_pos e]
    refine ⟨len1, fun y hy => ?_⟩
    simp only
    rw [get1 y hy, K]
    by_cases h1 : y = x
    · rw [if_pos h1, if_pos h1]
    · rw [if_neg h1, if_neg h1]
      by_cases h2 : y = p
      · rw [if_pos h2, if_pos h2]
      · rw [if_neg h2, if_neg h2, if_neg (by omega)]
  · subst e
    rw [hu, if_neg (by omega)]
    simp only [Int.toNat_natCast]
    have e2 : putL (Z.getD q []) p x = setAt (S.k q) p x := by rw [R.getD hq]; exact put_set (h.nd q hq) _ _ hqm
    refine ⟨by rw [List.length_set]; exact len1, fun y hy => ?_⟩
    rw [e2, K]
    by_cases h3 : y = q
    · subst h3
      rw [List.getElem?_set_self (by rw [len1]; exact hy), if_neg hqx, if_neg hqp, if_pos rfl]
    · rw [List.getElem?_set_ne (fun e => h3 e.symm), get1 y hy]
      by_cases h1 : y = x
      · rw [if_pos h1, if_pos h1]
      · rw [if_neg h1, if_neg h1]
        by_cases h2 : y = p
        · rw [if_pos h2, if_pos h2]
        · rw [if_neg h2, if_neg h2, if_neg (by omega)]
/-- What Lift asks holds in a sound forest. -/
theorem lift_ok {n : Nat} {S : CS} (h : FOk n S.f) {x : Nat} (hx : x < n) {p : Nat} (hp : p < n) (hu : S.u x = p) (hm : (x : Int) ∈ S.k p) : LiftOk n S x p (S.u p) := by
  have dg : ∀ y z : Nat, z < n → (y : Int) ∈ S.k z → (S.k y).length < (S.k z).length := fun y z hz hm => by
    obtain ⟨i, hi, he⟩ := List.getElem_of_mem hm
    have hge : (S.k z)[i]? = some (y : Int) := by rw [List.getElem?_eq_getElem hi, he]
    have := h.cube z hz i (y : Int) hge
    rw [Int.toNat_natCast] at this
    have this' : (S.k y).length = i := this
    omega
  refine ⟨hx, hp, fun e => by subst e; exact h.self hx hm, hu, rfl, hm, fun k hk => by have := h.rng x hx k hk; omega, fun k hk => by have := h.rng p hp k hk; omega, ?_⟩
  rcases h.up p hp with h1 | ⟨q, hq, h1, h2⟩
  · exact Or.inl h1
  · have d1 := dg x p hp hm
    have d2 := dg p q hq h2
    exact Or.inr ⟨q, h1, hq, fun e => by subst e; omega, fun e => by subst e; omega, h2⟩
end Go.Proofs.Ytdgohhkgmfjhaaa
