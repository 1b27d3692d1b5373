/-
  The plain law of layer 9: a thing that is cut and hung again, and what is turned twice. No program in sight. Conditions: those of each lemma.
-/
import Derived.Test.YtdgfibcbnlkbpaaSpineAllB
import Derived.Test.YtdgfibcbnlkbpaaSpineRel
set_option linter.unusedVariables false
set_option linter.unusedSimpArgs false
namespace Go.Proofs.Ytdgfibcbnlkbpaa

theorem rootL_step {n : Nat} {l : List Hg} (s : Snd n l) (z : Int) (hz : 0 ≤ z ∧ z < n) : rootL l n z = match upL l z with | some p => rootL l n p | none => z := by
  have h1 := rootL_last s z hz
  rw [anc_eq s z hz] at h1
  cases hq : upL l z with
  | none => rw [hq] at h1; simp at h1; exact h1.symm
  | some p =>
    rw [hq] at h1
    simp only at h1 ⊢
    have hp := upL_rng s hq
    have h2 := rootL_last s p hp
    have ne : anc n l p ≠ [] := by rw [anc_eq s p hp]; simp
    have el : (z :: anc n l p).getLast? = (anc n l p).getLast? := by
      cases ha : anc n l p with
      | nil => exact absurd ha ne
      | cons y t => rfl
    rw [el, h2] at h1
    simpa using h1.symm
theorem snd_cut {n : Nat} {l : List Hg} (s : Snd n l) (x : Int) : Snd n (cutL l x) := s.filter _
theorem root_cut {n : Nat} {l : List Hg} (s : Snd n l) {x p : Int} (hu : upL l x = some p) (hx : 0 ≤ x ∧ x < n) : ∀ (m : Nat) (z : Int), 0 ≤ z ∧ z < n → (anc n l z).length ≤ m →
    rootL l n z = if rootL (cutL l x) n z = x then rootL l n x else rootL (cutL l x) n z
  | 0, z, hz, hm => by have := anc_len s z hz; omega
  | m + 1, z, hz, hm => by
    have sc := snd_cut s x
    by_cases hzx : z = x
    · subst hzx
      have : rootL (cutL l z) n z = z := (root_self sc z hz).2 (by rw [upL_cut, if_pos rfl])
      rw [if_pos this]
    · have e1 := rootL_step s z hz
      have e2 := rootL_step sc z hz
      rw [upL_cut, if_neg hzx] at e2
      cases hq : upL l z with
      | none =>
        rw [hq] at e1 e2
        simp only at e1 e2
        rw [e1, e2, if_neg hzx]
      | some q =>
        rw [hq] at e1 e2
        simp only at e1 e2
        rw [e1, e2]
        have hqr := upL_rng s hq
        have := anc_eq s z hz
        rw [hq] at this
        rw [this] at hm
        simp only [List.length_cons] at hm
        exact root_cut s hu hx m q hqr (by have : (anc n l q).length + 1 ≤ m + 1 := hm; omega)
theorem len_sub : ∀ (A B : List Int), A.Nodup → (∀ x, x ∈ A → x ∈ B) → A.length ≤ B.length
  | [], B, _, _ => Nat.zero_le _
  | a :: A, B, hn, h => by
    have ha := h a (by simp)
    have h1 := len_sub A (B.erase a) (List.nodup_cons.1 hn).2 (fun x hx => (List.mem_erase_of_ne (fun e => (List.nodup_cons.1 hn).1 (by rw [← e]; exact hx))).2 (h x (by simp [hx])))
    rw [List.length_erase_of_mem ha] at h1
    have : 0 < B.length := List.length_pos_of_mem ha
    simp; omega
theorem back_len {n : Nat} {l : List Hg} (s : Snd n l) {x p : Int} (hu : upL l x = some p) (hx : 0 ≤ x ∧ x < n) :
    (allL n (cutL l x) n x).length + (allL n (cutL l x) n (rootL l n x)).length = (allL n l n (rootL l n x)).length := by
  have sc := snd_cut s x
  have hr := rootL_rng s x hx
  have hru := rootL_up s x hx
  have hrx : rootL l n x ≠ x := fun e => by rw [e, hu] at hru; cases hru
  have rx : rootL (cutL l x) n x = x := (root_self sc x hx).2 (by rw [upL_cut, if_pos rfl])
  have rr : rootL (cutL l x) n (rootL l n x) = rootL l n x := (root_self sc _ hr).2 (by rw [upL_cut, if_neg hrx]; exact hru)
  have rl := root_idem s x hx
  have m1 := fun z => all_root sc x z hx rx
  have m2 := fun z => all_root sc (rootL l n x) z hr rr
  have m3 := fun z => all_root s (rootL l n x) z hr rl
  have rc := fun z hz => root_cut s hu hx _ z hz (Nat.le_refl _)
  have nd : (allL n (cutL l x) n x ++ allL n (cutL l x) n (rootL l n x)).Nodup := by
    rw [List.nodup_append]
    refine ⟨allL_nodup sc n _, allL_nodup sc n _, fun a ha b hb e => ?_⟩
    subst e
    have h1 := ((m1 a).1 ha).2
    have h2 := ((m2 a).1 hb).2
    exact hrx (by rw [← h2]; exact h1)
  have a1 := len_sub _ (allL n l n (rootL l n x)) nd (fun z hz => by
    rw [m3 z]
    rcases List.mem_append.1 hz with h | h
    · obtain ⟨hz, e⟩ := (m1 z).1 h
      exact ⟨hz, by rw [rc z hz, if_pos e]⟩
    · obtain ⟨hz, e⟩ := (m2 z).1 h
      refine ⟨hz, ?_⟩
      rw [rc z hz, e, if_neg hrx])
  have a2 := len_sub (allL n l n (rootL l n x)) (allL n (cutL l x) n x ++ allL n (cutL l x) n (rootL l n x)) (allL_nodup s n _) (fun z hz => by
    obtain ⟨hz, e⟩ := (m3 z).1 hz
    rw [List.mem_append]
    by_cases h : rootL (cutL l x) n z = x
    · exact Or.inl ((m1 z).2 ⟨hz, h⟩)
    · rw [rc z hz, if_neg h] at e
      exact Or.inr ((m2 z).2 ⟨hz, e⟩))
  rw [List.length_append] at a1 a2
  omega
theorem allL_congr {n : Int} {l l' : List Hg} (h : ∀ q r, kidL l' q r = kidL l q r) : ∀ (f : Nat) (x : Int), allL n l' f x = allL n l f x
  | 0, x => rfl
  | f + 1, x => by
    have ih : allL n l' f = allL n l f := funext (allL_congr h f)
    rw [allL, allL, h, h, ih]
def backL (l : List Hg) (p x : Int) (r : Bool) : List Hg := turnL (turnL (cutL l x ++ [⟨p, x, r⟩]) p) p
theorem back_kid {n : Nat} {l : List Hg} (s : Snd n l) {x p : Int} {rr : Bool} (hm : Hg.mk p x rr ∈ l) (q : Int) (r : Bool) : kidL (backL l p x rr) q r = kidL l q r := by
  have h0 : kidL (backL l p x rr) q r = kidL (cutL l x ++ [⟨p, x, rr⟩]) q r := by
    unfold backL
    rw [kidL_turn, kidL_turn, kidL_turn]
    by_cases h : q = p <;> simp [h]
  rw [h0, kidL_snoc, kidL_cut s]
  by_cases h : kidL l q r = some x
  · have := one_x s (kid_mem h) hm rfl
    simp at this
    rw [if_pos h, if_pos ⟨this.1.symm, this.2.symm⟩, h]; rfl
  · rw [if_neg h]
    cases hq : kidL l q r with
    | some y => rfl
    | none =>
      rw [if_neg (fun e => by
        obtain ⟨rfl, rfl⟩ := e
        have := s.mem_kid hm
        simp only at this
        rw [hq] at this; cases this)]
      rfl
theorem cut_above {n : Nat} {l : List Hg} (s : Snd n l) {x p : Int} {rr : Bool} (hm : Hg.mk p x rr ∈ l) : aboveL (cutL l x) (n + 1) x p = false := by
  cases h : aboveL (cutL l x) (n + 1) x p with
  | false => rfl
  | true =>
    obtain ⟨d, hd⟩ := s.acyc
    have h1 := (aboveL_mem _ _ _).1 h
    have h2 := ancF_d (l := cutL l x) d (fun g hg => hd g (List.mem_filter.1 hg).1) _ _ _ h1
    have h3 := hd _ hm
    simp only at h3
    omega

end Go.Proofs.Ytdgfibcbnlkbpaa
