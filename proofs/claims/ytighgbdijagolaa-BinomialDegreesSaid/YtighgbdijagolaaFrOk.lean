/-
  Forests that stay sound: children that come off, things that change places. No program in sight. Conditions: those of each lemma.
-/
import Derived.Test.YtighgbdijagolaaKarPl2
import Derived.Test.YtighgbdijagolaaGx
set_option linter.unusedVariables false
set_option linter.unusedSimpArgs false
namespace Go.Proofs.Ytighgbdijagolaa

def putL (l : List Int) (x y : Int) : List Int := l.map (fun z => if z = x then y else z)
/-- A root's children come off. -/
theorem FOk.split {n : Nat} {S : CS} (h : FOk n S.f) {x : Nat} (hx : x < n) (hr : S.u x = -1) : FOk n (splitS S x).f := by
  have nx : ∀ z, z < n → (x : Int) ∉ S.k z := fun z hz hm => by
    have := (h.rng z hz _ hm).2.2
    rw [Int.toNat_natCast] at this
    have e : S.f.u x = S.u x := rfl
    omega
  have uk : ∀ y z, y < n → z < n → (y : Int) ∈ S.k z → S.u y = z := fun y z hy hz hm => by
    have := (h.rng z hz _ hm).2.2
    rwa [Int.toNat_natCast] at this
  refine ⟨fun z hz y hy => ?_, fun z hz => ?_, fun y hy => ?_, fun z hz i w hw => ?_⟩
  · show 0 ≤ y ∧ y < n ∧ (if ((y.toNat : Nat) : Int) ∈ S.k x then (-1 : Int) else S.u y.toNat) = z
    have hy' : y ∈ (if z = x then ([] : List Int) else S.k z) := hy
    by_cases e : z = x
    · rw [if_pos e] at hy'; cases hy'
    · rw [if_neg e] at hy'
      obtain ⟨h1, h2, h3⟩ := h.rng z hz y hy'
      refine ⟨h1, h2, ?_⟩
      rw [if_neg (fun hm => ?_)]
      · exact h3
      · have := uk y.toNat x (by omega) hx hm
        have e3 : S.f.u y.toNat = S.u y.toNat := rfl
        omega
  · show (if z = x then ([] : List Int) else S.k z).Nodup
    split
    · exact List.nodup_nil
    · exact h.nd z hz
  · show (if (y : Int) ∈ S.k x then (-1 : Int) else S.u y) = -1 ∨ ∃ p : Nat, p < n ∧ (if (y : Int) ∈ S.k x then (-1 : Int) else S.u y) = p ∧ (y : Int) ∈ (if p = x then ([] : List Int) else S.k p)
    by_cases hm : (y : Int) ∈ S.k x
    · rw [if_pos hm]; exact Or.inl rfl
    · rw [if_neg hm]
      rcases h.up y hy with h1 | ⟨p, hp, h1, h2⟩
      · exact Or.inl h1
      · refine Or.inr ⟨p, hp, h1, ?_⟩
        rw [if_neg (fun e => by subst e; exact hm h2)]; exact h2
  · have hw' : (if z = x then ([] : List Int) else S.k z)[i]? = some w := hw
    show (if w.toNat = x then ([] : List Int) else S.k w.toNat).length = i
    by_cases e : z = x
    · rw [if_pos e] at hw'; simp at hw'
    · rw [if_neg e] at hw'
      have hm := List.mem_of_getElem? hw'
      have hr := h.rng z hz w hm
      rw [if_neg (fun e2 => nx z hz (by rw [← e2, show ((w.toNat : Nat) : Int) = w by omega]; exact hm))]
      exact h.cube z hz i w hw'
theorem put_set {l : List Int} (h : l.Nodup) (x y : Int) (hx : x ∈ l) : putL l x y = setAt l x y := by
  obtain ⟨i, hi, he, hxi⟩ := idx_mem l x hx
  unfold putL setAt
  rw [he, Int.toNat_natCast]
  apply List.ext_getElem (by simp)
  intro j h1 h2
  rw [List.getElem_map, List.getElem_set]
  have hil : l[i] = x := (List.getElem?_eq_some_iff.1 hxi).2
  by_cases e : i = j
  · subst e; rw [if_pos hil, if_pos rfl]
  · rw [if_neg e, if_neg (fun e2 => e ?_)]
    have hj : j < l.length := by simpa using h1
    have hp := List.pairwise_iff_getElem.1 (List.nodup_iff_pairwise_ne.1 h)
    rcases Nat.lt_trichotomy i j with h' | h' | h'
    · exact absurd (hil.trans e2.symm) (hp i j hi hj h')
    · exact h'
    · exact absurd (e2.trans hil.symm) (hp j i hj hi h')
theorem mem_setAt {l : List Int} (h : l.Nodup) {x y z : Int} (hx : x ∈ l) : z ∈ setAt l x y ↔ z = y ∨ (z ∈ l ∧ z ≠ x) := by
  rw [← put_set h x y hx]
  unfold putL
  rw [List.mem_map]
  constructor
  · rintro ⟨w, hw, rfl⟩
    by_cases e : w = x
    · rw [if_pos e]; exact Or.inl rfl
    · rw [if_neg e]; exact Or.inr ⟨hw, e⟩
  · rintro (rfl | ⟨h1, h2⟩)
    · exact ⟨x, hx, by rw [if_pos rfl]⟩
    · exact ⟨z, h1, by rw [if_neg h2]⟩
theorem at_setAt {l : List Int} (h : l.Nodup) {x y z : Int} (hx : x ∈ l) {i : Nat} (hz : (setAt l x y)[i]? = some z) : (l[i]? = some x ∧ z = y) ∨ (l[i]? = some z ∧ z ≠ x) := by
  rw [← put_set h x y hx] at hz
  unfold putL at hz
  rw [List.getElem?_map] at hz
  cases hq : l[i]? with
  | none => rw [hq] at hz; cases hz
  | some w =>
    rw [hq] at hz
    simp at hz
    by_cases e : w = x
    · rw [if_pos e] at hz; subst e; exact Or.inl ⟨rfl, hz.symm⟩
    · rw [if_neg e] at hz; subst hz; exact Or.inr ⟨rfl, e⟩
theorem setAt_nodup {l : List Int} (h : l.Nodup) {x y : Int} (hx : x ∈ l) (hy : y ∉ l) : (setAt l x y).Nodup := by
  rw [← put_set h x y hx]
  unfold putL
  rw [List.nodup_iff_pairwise_ne, List.pairwise_map]
  refine (List.nodup_iff_pairwise_ne.1 h).imp_of_mem (fun {a b} ha hb hab => ?_)
  by_cases e1 : a = x
  · rw [if_pos e1]
    by_cases e2 : b = x
    · exact absurd (e1.trans e2.symm) hab
    · rw [if_neg e2]; intro e; subst e; exact hy hb
  · rw [if_neg e1]
    by_cases e2 : b = x
    · rw [if_pos e2]; intro e; subst e; exact hy ha
    · rw [if_neg e2]; exact hab

theorem FOk.lift {n : Nat} {S : CS} (h : FOk n S.f) {x p : Nat} {above : Int} (ok : LiftOk n S x p above) : FOk n (liftS S x p above).f := by
  have hx := ok.hx
  have hp := ok.hp
  have hne := ok.ne
  have uk : ∀ y z : Nat, y < n → z < n → (y : Int) ∈ S.k z → S.u y = z := fun y z hy hz hm => by
    have := (h.rng z hz _ hm).2.2
    rwa [Int.toNat_natCast] at this
  have rg : ∀ z, z < n → ∀ w, w ∈ S.k z → ∃ y : Nat, w = y ∧ y < n ∧ S.u y = z := fun z hz w hw => by
    obtain ⟨h1, h2, h3⟩ := h.rng z hz w hw
    exact ⟨w.toNat, by omega, by omega, h3⟩
  have dg : ∀ y z : Nat, z < n → (y : Int) ∈ S.k z → (S.k y).length < (S.k z).length := fun y z hz hm => by
    obtain ⟨i, hi, he⟩ := List.getElem_of_mem hm
    have hge : (S.k z)[i]? = some (y : Int) := by rw [List.getElem?_eq_getElem hi, he]
    have := h.cube z hz i (y : Int) hge
    rw [Int.toNat_natCast] at this
    have this' : (S.k y).length = i := this
    have hi' : i < (S.k z).length := hi
    omega
  have pk : (p : Int) ∉ S.k p := h.self hp
  have px : (p : Int) ∉ S.k x := fun hm => by
    have h1 := dg p x hx hm
    have h2 := dg x p hp ok.mem
    omega
  have ux : S.u x = p := ok.up
  have up : S.u p = above := ok.ab
  have nd := h.nd p hp
  -- where above is a thing
  have top : ∀ q : Nat, (q : Int) = above → q < n ∧ q ≠ x ∧ q ≠ p ∧ (p : Int) ∈ S.k q := fun q hq => by
    rcases ok.top with e | ⟨q', e, h1, h2, h3, h4⟩
    · omega
    · obtain rfl : q = q' := by omega
      exact ⟨h1, h2, h3, h4⟩
  have K : ∀ z : Nat, (liftS S x p above).f.k z = if z = x then setAt (S.k p) x p else if z = p then S.k x else if (z : Int) = above then setAt (S.k z) p x else S.k z := fun z => rfl
  have U : ∀ z : Nat, (liftS S x p above).f.u z = if z = x then above else if (z : Int) ∈ S.k x then (p : Int) else if (z : Int) ∈ setAt (S.k p) x p then (x : Int) else S.u z := fun z => rfl
  have mo : ∀ z : Int, z ∈ setAt (S.k p) x p ↔ z = p ∨ (z ∈ S.k p ∧ z ≠ x) := fun z => mem_setAt nd ok.mem
  -- degrees
  have D : ∀ y : Nat, ((liftS S x p above).f.k y).length = if y = x then (S.k p).length else if y = p then (S.k x).length else (S.k y).length := fun y => by
    rw [K]
    split
    · rw [setAt_len]
    · split
      · rfl
      · split
        · rw [setAt_len]
        · rfl
  have U1 : ∀ y : Nat, y < n → (y : Int) ∈ S.k x → (liftS S x p above).f.u y = p := fun y hy hm => by
    rw [U, if_neg (fun e => by subst e; exact h.self hx hm), if_pos hm]
  have U2 : ∀ y : Nat, y < n → (y : Int) ∈ setAt (S.k p) x p → (liftS S x p above).f.u y = x := fun y hy hm => by
    rcases (mo y).1 hm with e | ⟨h1, h2⟩
    · obtain rfl : y = p := by omega
      rw [U, if_neg (Ne.symm hne), if_neg px, if_pos hm]
    · rw [U, if_neg (fun e => h2 (by rw [e])), if_neg (fun hm2 => by have := uk y x hy hx hm2; have := uk y p hy hp h1; omega), if_pos hm]
  have U3 : ∀ y : Nat, y < n → y ≠ x → y ≠ p → S.u y ≠ x → S.u y ≠ p → (liftS S x p above).f.u y = S.u y := fun y hy h1 h2 h3 h4 => by
    rw [U, if_neg h1, if_neg (fun hm => h3 (uk y x hy hx hm)), if_neg (fun hm => by
      rcases (mo y).1 hm with e | ⟨h5, _⟩
      · omega
      · exact h4 (uk y p hy hp h5))]
  refine ⟨fun z hz w hw => ?_, fun z hz => ?_, fun y hy => ?_, fun z hz i w hw => ?_⟩
  · rw [K] at hw
    split at hw
    · rename_i e; subst e
      have hwm := hw
      rcases (mo w).1 hw with rfl | ⟨h1, h2⟩
      · exact ⟨by omega, by omega, by rw [Int.toNat_natCast]; exact U2 p hp hwm⟩
      · obtain ⟨y, rfl, hy, _⟩ := rg p hp w h1
        exact ⟨by omega, by omega, by rw [Int.toNat_natCast]; exact U2 y hy hwm⟩
    · rename_i hzx
      split at hw
      · rename_i e; subst e
        obtain ⟨y, rfl, hy, _⟩ := rg x hx w hw
        exact ⟨by omega, by omega, by rw [Int.toNat_natCast]; exact U1 y hy hw⟩
      · rename_i hzp
        split at hw
        · rename_i e
          obtain ⟨_, _, _, hm⟩ := top z e
          rcases (mem_setAt (h.nd z hz) hm).1 hw with rfl | ⟨h1, h2⟩
          · exact ⟨by omega, by omega, by rw [Int.toNat_natCast, U, if_pos rfl]; exact e.symm⟩
          · obtain ⟨y, rfl, hy, hu⟩ := rg z hz w h1
            have hyx : y ≠ x := fun e => by subst e; omega
            exact ⟨by omega, by omega, by rw [Int.toNat_natCast, U3 y hy hyx (fun e => h2 (by rw [e])) (by omega) (by omega)]; exact hu⟩
        · rename_i hza
          obtain ⟨y, rfl, hy, hu⟩ := rg z hz w hw
          have hyx : y ≠ x := fun e => by subst e; omega
          have hyp : y ≠ p := fun e => by subst e; omega
          exact ⟨by omega, by omega, by rw [Int.toNat_natCast, U3 y hy hyx hyp (by omega) (by omega)]; exact hu⟩
  · rw [K]
    split
    · exact setAt_nodup nd ok.mem pk
    · split
      · exact h.nd x hx
      · split
        · rename_i e
          obtain ⟨h1, h2, h3, hm⟩ := top z e
          exact setAt_nodup (h.nd z hz) hm (fun hm2 => by have := uk x z hx hz hm2; omega)
        · exact h.nd z hz
  · by_cases hyx : y = x
    · subst hyx
      rw [U, if_pos rfl]
      rcases ok.top with e | ⟨q, e, h1, h2, h3, h4⟩
      · exact Or.inl e
      · refine Or.inr ⟨q, h1, e, ?_⟩
        rw [K, if_neg h2, if_neg h3, if_pos e.symm]
        exact (mem_setAt (h.nd q h1) h4).2 (Or.inl rfl)
    · by_cases hm1 : (y : Int) ∈ S.k x
      · refine Or.inr ⟨p, hp, U1 y hy hm1, ?_⟩
        rw [K, if_neg (Ne.symm hne), if_pos rfl]; exact hm1
      · by_cases hm2 : (y : Int) ∈ setAt (S.k p) x p
        · refine Or.inr ⟨x, hx, U2 y hy hm2, ?_⟩
          rw [K, if_pos rfl]; exact hm2
        · have e : (liftS S x p above).f.u y = S.u y := by rw [U, if_neg hyx, if_neg hm1, if_neg hm2]
          rw [e]
          rcases h.up y hy with h1 | ⟨r, hr, h1, h2⟩
          · exact Or.inl h1
          · refine Or.inr ⟨r, hr, h1, ?_⟩
            have hrx : r ≠ x := fun e => by subst e; exact hm1 h2
            have hrp : r ≠ p := fun e => by subst e; exact hm2 ((mo y).2 (Or.inr ⟨h2, fun e => hyx (by omega)⟩))
            rw [K, if_neg hrx, if_neg hrp]
            split
            · rename_i e
              obtain ⟨_, _, _, hm⟩ := top r e
              exact (mem_setAt (h.nd r hr) hm).2 (Or.inr ⟨h2, fun e2 => hm2 ((mo y).2 (Or.inl e2))⟩)
            · exact h2
  · have other : ∀ (z : Nat) (w : Int), z < n → z ≠ x → (S.k z)[i]? = some w → w ≠ p → w ≠ x → ((liftS S x p above).f.k w.toNat).length = i := fun z w hz _ hw h1 h2 => by
      obtain ⟨y, rfl, hy, _⟩ := rg z hz w (List.mem_of_getElem? hw)
      rw [Int.toNat_natCast, D, if_neg (fun e => h2 (by rw [e])), if_neg (fun e => h1 (by rw [e]))]
      have := h.cube z hz i (y : Int) hw
      rwa [Int.toNat_natCast] at this
    have xi : ∀ i, (S.k p)[i]? = some (x : Int) → (S.k x).length = i := fun i hi => by
      have := h.cube p hp i (x : Int) hi
      rwa [Int.toNat_natCast] at this
    rw [K] at hw
    split at hw
    · rename_i e; subst e
      rcases at_setAt nd ok.mem hw with ⟨h1, rfl⟩ | ⟨h1, h2⟩
      · rw [Int.toNat_natCast, D, if_neg (Ne.symm hne), if_pos rfl]; exact xi i h1
      · exact other p w hp (Ne.symm hne) h1 (fun e => pk (by rw [← e]; exact List.mem_of_getElem? h1)) h2
    · rename_i hzx
      split at hw
      · rename_i e; subst e
        have hm := List.mem_of_getElem? hw
        obtain ⟨y, rfl, hy, _⟩ := rg x hx w hm
        rw [Int.toNat_natCast, D, if_neg (fun e => by subst e; exact h.self hx hm), if_neg (fun e => by subst e; exact px hm)]
        have := h.cube x hx i (y : Int) hw
        rwa [Int.toNat_natCast] at this
      · rename_i hzp
        split at hw
        · rename_i e
          obtain ⟨_, _, _, hm⟩ := top z e
          rcases at_setAt (h.nd z hz) hm hw with ⟨h1, rfl⟩ | ⟨h1, h2⟩
          · rw [Int.toNat_natCast, D, if_pos rfl]
            have := h.cube z hz i (p : Int) h1
            rwa [Int.toNat_natCast] at this
          · exact other z w hz hzx h1 h2 (fun e2 => by have := uk x z hx hz (by rw [← e2]; exact List.mem_of_getElem? h1); omega)
        · rename_i hza
          have hm := List.mem_of_getElem? hw
          exact other z w hz hzx hw (fun e2 => by have := uk p z hp hz (by rw [← e2]; exact hm); omega) (fun e2 => by have := uk x z hx hz (by rw [← e2]; exact hm); omega)
/-- What Lift asks holds in a sound forest. -/
theorem lift_ok {n : Nat} {S : CS} (h : FOk n S.f) {x : Nat} (hx : x < n) {p : Nat} (hp : p < n) (hu : S.u x = p) (hm : (x : Int) ∈ S.k p) : LiftOk n S x p (S.u p) := by
  have dg : ∀ y z : Nat, z < n → (y : Int) ∈ S.k z → (S.k y).length < (S.k z).length := fun y z hz hm => by
    obtain ⟨i, hi, he⟩ := List.getElem_of_mem hm
    have hge : (S.k z)[i]? = some (y : Int) := by rw [List.getElem?_eq_getElem hi, he]
    have := h.cube z hz i (y : Int) hge
    rw [Int.toNat_natCast] at this
    have this' : (S.k y).length = i := this
    omega
  refine ⟨hx, hp, fun e => by subst e; exact h.self hx hm, hu, rfl, hm, fun k hk => by have := h.rng x hx k hk; omega, fun k hk => by have := h.rng p hp k hk; omega, ?_⟩
  rcases h.up p hp with h1 | ⟨q, hq, h1, h2⟩
  · exact Or.inl h1
  · have d1 := dg x p hp hm
    have d2 := dg p q hq h2
    exact Or.inr ⟨q, h1, hq, fun e => by subst e; omega, fun e => by subst e; omega, h2⟩
/-- T is topmost above p. -/
inductive Top (u : Nat → Int) : Nat → Nat → Prop
  | here (p : Nat) : u p = -1 → Top u p p
  | up (p q T : Nat) : u p = q → Top u q T → Top u p T
theorem Top.root {u : Nat → Int} {p T : Nat} (h : Top u p T) : u T = -1 := by induction h <;> assumption
theorem Top.mono {n : Nat} {S : CS} (h : FOk n S.f) {x p : Nat} {above : Int} (ok : LiftOk n S x p above) {q T : Nat} (ht : Top S.u q T) : q < n → (S.k p).length < (S.k q).length → Top (liftS S x p above).u q T ∧ (S.k p).length < (S.k T).length ∧ T < n := by
  have uk : ∀ y z : Nat, z < n → (y : Int) ∈ S.k z → S.u y = z ∧ (S.k y).length < (S.k z).length := fun y z hz hm => by
    have h1 := (h.rng z hz _ hm).2.2
    rw [Int.toNat_natCast] at h1
    obtain ⟨i, hi, he⟩ := List.getElem_of_mem hm
    have hge : (S.k z)[i]? = some (y : Int) := by rw [List.getElem?_eq_getElem hi, he]
    have h2 := h.cube z hz i (y : Int) hge
    rw [Int.toNat_natCast] at h2
    have h3 : (S.k y).length = i := h2
    exact ⟨h1, by omega⟩
  have hxp := (uk x p ok.hp ok.mem).2
  have same : ∀ y : Nat, (S.k p).length < (S.k y).length → (liftS S x p above).u y = S.u y := fun y hy => by
    show (if y = x then above else if (y : Int) ∈ S.k x then (p : Int) else if (y : Int) ∈ setAt (S.k p) x p then (x : Int) else S.u y) = S.u y
    rw [if_neg (fun e => by subst e; omega), if_neg (fun hm => by have := (uk y x ok.hx hm).2; omega), if_neg (fun hm => by
      rcases (mem_setAt (h.nd p ok.hp) ok.mem).1 hm with e | ⟨h1, _⟩
      · have : y = p := by omega
        subst this; omega
      · have := (uk y p ok.hp h1).2; omega)]
  induction ht with
  | here q hq => exact fun hqn hd => ⟨Top.here q (by rw [same q hd]; exact hq), hd, hqn⟩
  | up q r T hu ht ih =>
    intro hqn hd
    have hr : r < n ∧ (q : Int) ∈ S.k r := by
      rcases h.up q hqn with h1 | ⟨r', hr', h1, h2⟩
      · have : S.u q = -1 := h1
        omega
      · have h1' : S.u q = r' := h1
        obtain rfl : r = r' := by omega
        exact ⟨hr', h2⟩
    have hdr := (uk q r hr.1 hr.2).2
    obtain ⟨h1, h2, h3⟩ := ih hr.1 (by omega)
    exact ⟨Top.up q r T (by rw [same q hd]; exact hu) h1, h2, h3⟩

theorem lift_deg (S : CS) (x p : Nat) (above : Int) (y : Nat) : ((liftS S x p above).k y).length = if y = x then (S.k p).length else if y = p then (S.k x).length else (S.k y).length := by
  show (if y = x then setAt (S.k p) x p else if y = p then S.k x else if (y : Int) = above then setAt (S.k y) p x else S.k y).length = _
  split
  · rw [setAt_len]
  · split
    · rfl
    · split
      · rw [setAt_len]
      · rfl
/-- Where x stands while it is lifted: at the top in T's place, or below it. -/
def LiftI (n : Nat) (S : CS) (x T : Nat) (dT : Nat) : Prop :=
  (S.u x = -1 ∧ (S.k x).length = dT) ∨ (∃ p : Nat, p < n ∧ S.u x = p ∧ (x : Int) ∈ S.k p ∧ Top S.u p T ∧ (S.k T).length = dT)
theorem lift_next {n : Nat} {S : CS} (h : FOk n S.f) {x p T dT : Nat} (hx : x < n) (hp : p < n) (hu : S.u x = p) (hm : (x : Int) ∈ S.k p) (ht : Top S.u p T) (hd : (S.k T).length = dT) :
    LiftI n (liftS S x p (S.u p)) x T dT ∧ (S.k x).length < ((liftS S x p (S.u p)).k x).length := by
  have ok := lift_ok h hx hp hu hm
  have uk : ∀ y z : Nat, z < n → (y : Int) ∈ S.k z → (S.k y).length < (S.k z).length := fun y z hz hm => by
    obtain ⟨i, hi, he⟩ := List.getElem_of_mem hm
    have hge : (S.k z)[i]? = some (y : Int) := by rw [List.getElem?_eq_getElem hi, he]
    have h2 := h.cube z hz i (y : Int) hge
    rw [Int.toNat_natCast] at h2
    have h3 : (S.k y).length = i := h2
    omega
  have hxd : ((liftS S x p (S.u p)).k x).length = (S.k p).length := by rw [lift_deg, if_pos rfl]
  have hxp := uk x p hp hm
  refine ⟨?_, by omega⟩
  have ux : (liftS S x p (S.u p)).u x = S.u p := by
    show (if x = x then S.u p else _) = S.u p
    rw [if_pos rfl]
  cases ht with
  | here _ h1 => exact Or.inl ⟨by rw [ux]; exact h1, by rw [hxd]; exact hd⟩
  | up _ q _ h1 h2 =>
    have hq : q < n ∧ (p : Int) ∈ S.k q := by
      rcases h.up p hp with h3 | ⟨q', hq', h3, h4⟩
      · have : S.u p = -1 := h3
        omega
      · have h3' : S.u p = q' := h3
        obtain rfl : q = q' := by omega
        exact ⟨hq', h4⟩
    have hdq := uk p q hq.1 hq.2
    obtain ⟨t1, t2, t3⟩ := h2.mono h ok hq.1 hdq
    refine Or.inr ⟨q, hq.1, by rw [ux]; exact h1, ?_, t1, ?_⟩
    · show (x : Int) ∈ (if q = x then setAt (S.k p) x p else if q = p then S.k x else if (q : Int) = S.u p then setAt (S.k q) p x else S.k q)
      rw [if_neg (fun e => by subst e; omega), if_neg (fun e => by subst e; omega), if_pos h1.symm]
      exact (mem_setAt (h.nd q hq.1) hq.2).2 (Or.inl rfl)
    · rw [lift_deg, if_neg (fun e => by subst e; omega), if_neg (fun e => by subst e; omega)]; exact hd
end Go.Proofs.Ytighgbdijagolaa
