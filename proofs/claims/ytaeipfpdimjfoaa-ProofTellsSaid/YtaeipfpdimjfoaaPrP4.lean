/-
  Shortest ways, plainly: by marks one sees whether one comes back to the source from everywhere. Conditions: those of each lemma.
-/
import Derived.Test.YtaeipfpdimjfoaaPrP3
set_option linter.unusedVariables false
set_option linter.unusedSimpArgs false
namespace Go.Proofs.Ytaeipfpdimjfoaa

section
variable {E : List En} {by' : Nat → Int} {s N : Nat} {mk : Nat → Nat}
theorem iterP_add (E : List En) (by' : Nat → Int) : ∀ (i j x : Nat), iterP E by' (i + j) x = iterP E by' j (iterP E by' i x) := by
  intro i
  induction i with
  | zero => intro j x; rw [Nat.zero_add]; rfl
  | succ i ih => intro j x; rw [show i + 1 + j = (i + j) + 1 by omega]; exact ih j _
theorem iterP_one (E : List En) (by' : Nat → Int) (x : Nat) : iterP E by' 1 x = parN E by' x := rfl
theorem iterP_fix {x : Nat} (h : by' x = -1) : ∀ k, iterP E by' k x = x := by
  intro k
  induction k with
  | zero => rfl
  | succ k ih => show iterP E by' k (parN E by' x) = x; rw [show parN E by' x = x by unfold parN; rw [if_pos h]]; exact ih
def GoodV (E : List En) (by' : Nat → Int) (s x : Nat) : Prop := ∃ k, iterP E by' k x = s
/-- A ring beside the source comes never there. -/
theorem ring_bad (hs : by' s = -1) {x j : Nat} (hj : 1 ≤ j) (h : iterP E by' j x = x) (hx : x ≠ s) : ¬ GoodV E by' s x := by
  rintro ⟨k, hk⟩
  have hm : ∀ m, iterP E by' (m * j) x = x := by
    intro m
    induction m with
    | zero => simp [iterP]
    | succ m ih => rw [Nat.succ_mul, iterP_add, ih, h]
  have h1 : k ≤ k * j := Nat.le_mul_of_pos_right k hj
  have h2 := iterP_add E by' k (k * j - k) x
  rw [show k + (k * j - k) = k * j by omega, hm, hk, iterP_fix hs] at h2
  exact hx h2
theorem good_on (hs : by' s = -1) {v x k : Nat} (h : iterP E by' k v = x) (hx : x ≠ s) (hg : GoodV E by' s v) : GoodV E by' s x := by
  obtain ⟨n, hn⟩ := hg
  by_cases hkn : k ≤ n
  · refine ⟨n - k, ?_⟩
    rw [← h, ← iterP_add, show k + (n - k) = n by omega, hn]
  · exfalso
    have := iterP_add E by' n (k - n) v
    rw [show n + (k - n) = k by omega, h, hn, iterP_fix hs] at this
    exact hx this
theorem good_back {v x k : Nat} (h : iterP E by' k v = x) (hg : GoodV E by' s x) : GoodV E by' s v := by
  obtain ⟨n, hn⟩ := hg
  exact ⟨k + n, by rw [iterP_add, h, hn]⟩
/-- What is given of edges by which vertices are reached. -/
structure ByOk (E : List En) (by' : Nat → Int) (s N : Nat) : Prop where
  src : by' s = -1
  sN : s < N
  par : ∀ x, x < N → by' x ≠ -1 → parN E by' x < N ∧ (parN E by' x = s ∨ by' (parN E by' x) ≠ -1)
/-- Before the round of v. -/
structure MarkO (E : List En) (by' : Nat → Int) (s N v : Nat) (mk : Nat → Nat) : Prop where
  src : mk s = N + 1
  old : ∀ x, x < N → x ≠ s → mk x ≠ 0 → mk x ≤ v ∧ GoodV E by' s x
  all : ∀ u, u < v → by' u ≠ -1 → GoodV E by' s u
/-- In the round of v. -/
structure MarkI (E : List En) (by' : Nat → Int) (s N v : Nat) (mk : Nat → Nat) (a : Nat) : Prop where
  src : mk s = N + 1
  aN : a < N
  at_ : ∃ k, iterP E by' k v = a
  old : ∀ x, x < N → x ≠ s → mk x ≠ 0 → (mk x ≤ v ∧ GoodV E by' s x) ∨ (mk x = v + 1 ∧ by' v ≠ -1 ∧ by' x ≠ -1 ∧ ∃ j, 1 ≤ j ∧ iterP E by' j x = a)
  on : a = s ∨ by' a ≠ -1 ∨ a = v
  all : ∀ u, u < v → by' u ≠ -1 → GoodV E by' s u
theorem mark_zero : MarkO E by' s N 0 (setN (fun _ => 0) s (N + 1)) :=
  ⟨by unfold setN; rw [if_pos rfl], fun x _ hs h => by unfold setN at h; rw [if_neg hs] at h; exact absurd rfl h, fun u hu => by omega⟩
theorem mark_in {v : Nat} (h : MarkO E by' s N v mk) (hv : v < N) : MarkI E by' s N v mk v :=
  ⟨h.src, hv, ⟨0, rfl⟩, fun x hx hs hm => Or.inl (h.old x hx hs hm), Or.inr (Or.inr rfl), h.all⟩
theorem mark_step (B : ByOk E by' s N) {v a : Nat} (h : MarkI E by' s N v mk a) (h0 : mk a = 0) (hb : by' a ≠ -1) : MarkI E by' s N v (setN mk a (v + 1)) (parN E by' a) := by
  have has : a ≠ s := fun e => by rw [e, h.src] at h0; omega
  obtain ⟨hp, hp2⟩ := B.par a h.aN hb
  obtain ⟨k, hk⟩ := h.at_
  have hvb : by' v ≠ -1 := fun e => by
    have := iterP_fix (E := E) e k
    rw [hk] at this
    exact hb (by rw [this]; exact e)
  refine ⟨?_, hp, ⟨k + 1, by rw [iterP_add, hk]; rfl⟩, fun x hx hs hm => ?_, hp2.elim Or.inl (fun h => Or.inr (Or.inl h)), h.all⟩
  · unfold setN; rw [if_neg (fun e => has e.symm)]; exact h.src
  · by_cases e : x = a
    · subst e
      right
      exact ⟨by unfold setN; rw [if_pos rfl], hvb, hb, 1, Nat.le_refl _, rfl⟩
    · have e1 : setN mk a (v + 1) x = mk x := by unfold setN; rw [if_neg e]
      rw [e1] at hm ⊢
      rcases h.old x hx hs hm with h1 | ⟨h1, h2, h3, j, h4, h5⟩
      · exact Or.inl h1
      · exact Or.inr ⟨h1, h2, h3, j + 1, by omega, by rw [iterP_add, h5]; rfl⟩
/-- Behind the round: a ring is seen. -/
theorem mark_ring (B : ByOk E by' s N) {v a : Nat} (h : MarkI E by' s N v mk a) (h1 : mk a = v + 1) (h2 : by' v ≠ -1) (h3 : a ≠ s) : ¬ GoodV E by' s v := by
  obtain ⟨k, hk⟩ := h.at_
  rcases h.old a h.aN h3 (by omega) with h4 | ⟨_, _, _, j, h5, h6⟩
  · omega
  · exact fun hg => ring_bad B.src h5 h6 h3 (good_on B.src hk h3 hg)
/-- Behind the round: no ring. -/
theorem mark_next (B : ByOk E by' s N) {v a : Nat} (h : MarkI E by' s N v mk a) (h0 : ¬ (mk a = 0 ∧ by' a ≠ -1)) (h1 : ¬ (mk a = v + 1 ∧ by' v ≠ -1 ∧ a ≠ s)) : MarkO E by' s N (v + 1) mk := by
  obtain ⟨k, hk⟩ := h.at_
  have key : by' v = -1 ∨ GoodV E by' s a := by
    by_cases hb : by' v = -1
    · exact Or.inl hb
    · right
      by_cases e : a = s
      · exact ⟨0, e⟩
      · by_cases hm : mk a = 0
        · have hba : by' a = -1 := Classical.byContradiction fun hn => h0 ⟨hm, hn⟩
          rcases h.on with h2 | h2 | h2
          · exact absurd h2 e
          · exact absurd hba h2
          · subst h2; exact absurd hba hb
        · rcases h.old a h.aN e hm with h2 | ⟨h2, _⟩
          · exact h2.2
          · exact absurd ⟨h2, hb, e⟩ h1
  refine ⟨h.src, fun x hx hs hm => ?_, fun u hu hbu => ?_⟩
  · rcases h.old x hx hs hm with h2 | ⟨h2, h3, h4, j, h5, h6⟩
    · exact ⟨by omega, h2.2⟩
    · refine ⟨by omega, ?_⟩
      rcases key with h7 | h7
      · exact absurd h7 h3
      · exact good_back h6 h7
  · by_cases e : u = v
    · subst e
      rcases key with h7 | h7
      · exact absurd h7 hbu
      · exact good_back hk h7
    · exact h.all u (by omega) hbu
/-- How many are not marked. -/
theorem mark_less {v a : Nat} (ha : a < N) (h0 : mk a = 0) : cntS (fun x => setN mk a (v + 1) x = 0) N < cntS (fun x => mk x = 0) N := by
  refine cntS_lt (fun x hx => ?_) ha ?_ h0
  · unfold setN at hx
    split at hx
    · omega
    · exact hx
  · unfold setN; rw [if_pos rfl]; omega
end
end Go.Proofs.Ytaeipfpdimjfoaa
