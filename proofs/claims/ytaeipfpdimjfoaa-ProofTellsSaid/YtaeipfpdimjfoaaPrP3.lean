/-
  Shortest ways, plainly: a tree is proved just when the document has it so. Conditions: those of each lemma.
-/
import Derived.Test.YtaeipfpdimjfoaaPrP2
set_option linter.unusedVariables false
set_option linter.unusedSimpArgs false
namespace Go.Proofs.Ytaeipfpdimjfoaa

def edN (E : List En) (i : Int) : En := E.getD i.toNat ⟨0, 0, 0⟩
/-- Where a vertex comes from. -/
def parN (E : List En) (by' : Nat → Int) (x : Nat) : Nat := if by' x = -1 then x else (edN E (by' x)).f
theorem parN_of {E : List En} {by' : Nat → Int} {x : Nat} (h : by' x ≠ -1) : parN E by' x = (edN E (by' x)).f := by unfold parN; rw [if_neg h]
/-- Is the edge by which a vertex is reached one that is tight? -/
def stepOk (E : List En) (by' : Nat → Int) (D : Nat → Nat) (x : Nat) : Bool :=
  decide (0 ≤ by' x) && decide (by' x < E.length) && decide ((edN E (by' x)).t = x) && decide (D (parN E by' x) ≠ inf) && decide (D (parN E by' x) + (edN E (by' x)).w = D x)
/-- Does one come back to the source so? -/
def chainOk (E : List En) (by' : Nat → Int) (D : Nat → Nat) (s : Nat) : Nat → Nat → Bool
  | 0, x => decide (x = s)
  | k + 1, x => decide (x = s) || (stepOk E by' D x && chainOk E by' D s k (parN E by' x))
def iterP (E : List En) (by' : Nat → Int) : Nat → Nat → Nat
  | 0, x => x
  | k + 1, x => iterP E by' k (parN E by' x)
/-- What the document says. -/
def TreeP (E : List En) (N s : Nat) (D d : Nat → Nat) (by' : Nat → Int) : Prop :=
  ∀ v, v < N → d v = D v ∧ ((v = s ∨ D v = inf) → by' v = -1) ∧ (¬ (v = s ∨ D v = inf) → chainOk E by' D s N v = true)
/-- What the program says. -/
def ProvP (E : List En) (N s : Nat) (d : Nat → Nat) (by' : Nat → Int) : Prop :=
  d s = 0 ∧ by' s = -1 ∧ Feas E d ∧ (∀ v, v < N → ((v ≠ s ∧ d v ≠ inf) ↔ by' v ≠ -1) ∧ (v ≠ s ∧ d v ≠ inf → stepOk E by' d v = true)) ∧ ∀ v, v < N → by' v ≠ -1 → ∃ k, iterP E by' k v = s
section
variable {E : List En} {by' : Nat → Int} {D d : Nat → Nat} {s N m : Nat}
theorem stepOk_iff (E : List En) (by' : Nat → Int) (D : Nat → Nat) (x : Nat) : stepOk E by' D x = true ↔ 0 ≤ by' x ∧ by' x < E.length ∧ (edN E (by' x)).t = x ∧ D (parN E by' x) ≠ inf ∧ D (parN E by' x) + (edN E (by' x)).w = D x := by
  unfold stepOk; simp [and_assoc]
theorem edN_mem {i : Int} (h0 : 0 ≤ i) (h1 : i < E.length) : edN E i ∈ E := by
  unfold edN
  have : i.toNat < E.length := by omega
  rw [List.getD_eq_getElem?_getD, List.getElem?_eq_getElem this]
  exact List.getElem_mem _
theorem chainOk_iter : ∀ (k x : Nat), chainOk E by' D s k x = true → ∃ j, iterP E by' j x = s := by
  intro k
  induction k with
  | zero => intro x h; exact ⟨0, by simp only [iterP]; simpa [chainOk] using h⟩
  | succ k ih =>
    intro x h
    unfold chainOk at h
    by_cases e : x = s
    · exact ⟨0, e⟩
    · simp only [e, decide_false, Bool.false_or, Bool.and_eq_true] at h
      obtain ⟨j, hj⟩ := ih _ h.2
      exact ⟨j + 1, hj⟩
theorem chainOk_succ : ∀ (k x : Nat), chainOk E by' D s k x = true → chainOk E by' D s (k + 1) x = true := by
  intro k
  induction k with
  | zero => intro x h; unfold chainOk at h ⊢; rw [h]; rfl
  | succ k ih =>
    intro x h
    unfold chainOk at h ⊢
    by_cases e : x = s
    · simp [e]
    · simp only [e, decide_false, Bool.false_or, Bool.and_eq_true] at h ⊢
      exact ⟨h.1, ih _ h.2⟩
theorem chainOk_mono {i j x : Nat} (hij : i ≤ j) (h : chainOk E by' D s i x = true) : chainOk E by' D s j x = true := by
  induction hij with
  | refl => exact h
  | step _ ih => exact chainOk_succ _ _ ih
/-- If no chain is longer at one step more, none ever is. -/
theorem chain_still {k : Nat} (hs : ∀ x, x < N → stepOk E by' D x = true → parN E by' x < N) (h : ∀ x, x < N → chainOk E by' D s (k + 1) x = true → chainOk E by' D s k x = true) :
    ∀ j x, x < N → chainOk E by' D s (k + j) x = true → chainOk E by' D s k x = true := by
  intro j
  induction j with
  | zero => intro x _ h; exact h
  | succ j ih =>
    intro x hx hc
    have hc' : chainOk E by' D s ((k + j) + 1) x = true := hc
    unfold chainOk at hc'
    by_cases e : x = s
    · refine chainOk_mono (i := 0) (by omega) ?_
      unfold chainOk; simpa using e
    · simp only [e, decide_false, Bool.false_or, Bool.and_eq_true] at hc'
      have h1 := ih _ (hs x hx hc'.1) hc'.2
      apply h x hx
      unfold chainOk
      simp only [e, decide_false, Bool.false_or, Bool.and_eq_true]
      exact ⟨hc'.1, h1⟩
/-- No chain is longer than there are vertices. -/
theorem chain_short (hsN : s < N) (hs : ∀ x, x < N → stepOk E by' D x = true → parN E by' x < N) {j x : Nat} (hx : x < N) (h : chainOk E by' D s j x = true) : chainOk E by' D s N x = true := by
  have key : ∀ k, (∀ x, x < N → chainOk E by' D s (k + 1) x = true → chainOk E by' D s k x = true) ∨ k < cntS (fun x => chainOk E by' D s k x = true) N := by
    intro k
    induction k with
    | zero => exact Or.inr (cntS_pos hsN (by simp [chainOk]))
    | succ k ih =>
      rcases ih with ih | ih
      · left
        intro x hx hc
        have := chain_still (k := k) hs ih 2 x hx hc
        exact chainOk_succ _ _ this
      · by_cases hall : ∀ x, x < N → chainOk E by' D s (k + 1) x = true → chainOk E by' D s k x = true
        · left
          intro x hx hc
          have := chain_still (k := k) hs hall 2 x hx hc
          exact chainOk_succ _ _ this
        · right
          obtain ⟨x, hx⟩ := Classical.not_forall.1 hall
          obtain ⟨h1, h2⟩ := Classical.not_imp.1 hx
          obtain ⟨h3, h4⟩ := Classical.not_imp.1 h2
          have := cntS_lt (P := fun x => chainOk E by' D s k x = true) (Q := fun x => chainOk E by' D s (k + 1) x = true) (fun v hv => chainOk_succ _ _ hv) h1 h4 h3
          omega
  rcases key N with hk | hk
  · by_cases hj : j ≤ N
    · exact chainOk_mono hj h
    · have e : N + (j - N) = j := by omega
      exact chain_still (k := N) hs hk (j - N) x hx (by rw [e]; exact h)
  · have := cntS_le (fun x => chainOk E by' D s N x = true) N
    omega
theorem step_par (g : GOk E s N m) {x : Nat} (h : stepOk E by' D x = true) : parN E by' x < N := by
  obtain ⟨h0, h1, _⟩ := (stepOk_iff E by' D x).1 h
  rw [parN_of (by omega)]
  exact (g.e _ (edN_mem h0 h1)).1
/-- A tree is proved just when it is one. -/
theorem prov_tree (g : GOk E s N m) (hd : ∀ v, v < N → d v ≤ inf) : ProvP E N s d by' ↔ TreeP E N s (passes E s N) d by' := by
  have R := passes_rx g N
  have F := bf_enough g
  constructor
  · rintro ⟨hd0, hb0, hF, hv, hr⟩
    -- the distances are the document's
    have hF' : Feas E (fun v => if v < N then d v else inf) := fun e he hf => by
      obtain ⟨a, b, _⟩ := g.e e he
      simp only [a, b, if_pos] at hf ⊢
      exact hF e he hf
    have up : ∀ v, v < N → passes E s N v ≠ inf → d v ≤ passes E s N v := fun v hvN hfin => by
      have h1 := R.le v
      have := feas_way (L := fun v => if v < N then d v else inf) hF' (by simp only [g.src, if_pos]; exact hd0) (fun v => by
        by_cases e : v < N
        · simp only [e, if_pos]; exact hd v e
        · simp only [e, if_false]; exact Nat.le_refl _) (R.way v hfin) (by omega)
      simpa only [hvN, if_pos] using this
    have down : ∀ k v, v < N → d v ≠ inf → iterP E by' k v = s → passes E s N v ≤ d v := by
      intro k
      induction k with
      | zero => intro v hvN _ hk; simp only [iterP] at hk; subst hk; rw [R.src]; omega
      | succ k ih =>
        intro v hvN hfin hk
        by_cases e : v = s
        · subst e; rw [R.src]; omega
        · have hst := (hv v hvN).2 ⟨e, hfin⟩
          obtain ⟨h0, h1, h2, h3, h4⟩ := (stepOk_iff E by' d v).1 hst
          have hp := step_par g hst
          have h5 := ih _ hp h3 hk
          have h6 := hd _ hp
          rw [parN_of (by omega)] at h3 h4 h5 h6
          have h7 := F _ (edN_mem h0 h1) (by omega)
          rw [h2] at h7
          omega
    have same : ∀ v, v < N → d v = passes E s N v := fun v hvN => by
      have h1 := hd v hvN
      have h2 := R.le v
      by_cases hfin : d v = inf
      · by_cases h3 : passes E s N v = inf
        · rw [hfin, h3]
        · have := up v hvN h3; omega
      · have hdn : passes E s N v ≤ d v := by
          by_cases e : v = s
          · subst e; rw [R.src]; omega
          · obtain ⟨k, hk⟩ := hr v hvN ((hv v hvN).1.1 ⟨e, hfin⟩)
            exact down k v hvN hfin hk
        have := up v hvN (by omega)
        omega
    have sOk : ∀ v, v < N → stepOk E by' d v = true → stepOk E by' (passes E s N) v = true := fun v hvN h => by
      have hp := step_par g h
      obtain ⟨h0, h1, h2, h3, h4⟩ := (stepOk_iff E by' d v).1 h
      rw [same _ hp] at h3 h4
      rw [same _ hvN] at h4
      exact (stepOk_iff E by' _ v).2 ⟨h0, h1, h2, h3, h4⟩
    intro v hvN
    refine ⟨same v hvN, fun h => ?_, fun h => ?_⟩
    · apply Classical.byContradiction
      intro hn
      obtain ⟨h1, h2⟩ := (hv v hvN).1.2 hn
      rcases h with h | h
      · exact h1 h
      · exact h2 (by rw [same v hvN]; exact h)
    · have h1 : v ≠ s ∧ d v ≠ inf := ⟨fun e => h (Or.inl e), fun e => h (Or.inr (by rw [← same v hvN]; exact e))⟩
      obtain ⟨k, hk⟩ := hr v hvN ((hv v hvN).1.1 h1)
      have hch : ∀ k v, v < N → d v ≠ inf → iterP E by' k v = s → chainOk E by' (passes E s N) s k v = true := by
        intro k
        induction k with
        | zero => intro v _ _ hk; simp only [iterP] at hk; unfold chainOk; simpa using hk
        | succ k ih =>
          intro v hvN hfin hk
          unfold chainOk
          by_cases e : v = s
          · simp [e]
          · have hst := (hv v hvN).2 ⟨e, hfin⟩
            obtain ⟨_, _, _, h3, _⟩ := (stepOk_iff E by' d v).1 hst
            simp only [e, decide_false, Bool.false_or, Bool.and_eq_true]
            exact ⟨sOk v hvN hst, ih _ (step_par g hst) h3 hk⟩
      exact chain_short g.src (fun x _ h => step_par g h) hvN (hch k v hvN h1.2 hk)
  · intro hT
    have same : ∀ v, v < N → d v = passes E s N v := fun v hv => (hT v hv).1
    have hFd : Feas E d := fun e he hf => by
      obtain ⟨a, b, _⟩ := g.e e he
      rw [same _ a] at hf ⊢
      rw [same _ b]
      exact F e he hf
    have hch : ∀ v, v < N → v ≠ s ∧ d v ≠ inf → chainOk E by' (passes E s N) s N v = true := fun v hv h => (hT v hv).2.2 (fun hn => by
      rcases hn with hn | hn
      · exact h.1 hn
      · exact h.2 (by rw [same v hv]; exact hn))
    have hN : 0 < N := Nat.lt_of_le_of_lt (Nat.zero_le _) g.src
    have hst : ∀ v, v < N → v ≠ s ∧ d v ≠ inf → stepOk E by' (passes E s N) v = true := fun v hv h => by
      have h1 := hch v hv h
      obtain ⟨n, rfl⟩ : ∃ n, N = n + 1 := ⟨N - 1, by omega⟩
      unfold chainOk at h1
      simp only [h.1, decide_false, Bool.false_or, Bool.and_eq_true] at h1
      exact h1.1
    refine ⟨by rw [same _ g.src, R.src], (hT s g.src).2.1 (Or.inl rfl), hFd, fun v hv => ⟨⟨fun h hn => ?_, fun h => ?_⟩, fun h => ?_⟩, fun v hv hb => ?_⟩
    · obtain ⟨h0, _⟩ := (stepOk_iff E by' _ v).1 (hst v hv h)
      omega
    · refine ⟨fun e => h ((hT v hv).2.1 (Or.inl e)), fun e => h ((hT v hv).2.1 (Or.inr (by rw [← same v hv]; exact e)))⟩
    · have h1 := hst v hv h
      have hp := step_par g h1
      obtain ⟨h0, h1, h2, h3, h4⟩ := (stepOk_iff E by' _ v).1 h1
      rw [← same _ hp] at h3 h4
      rw [← same _ hv] at h4
      exact (stepOk_iff E by' d v).2 ⟨h0, h1, h2, h3, h4⟩
    · have h1 : v ≠ s ∧ d v ≠ inf := ⟨fun e => hb ((hT v hv).2.1 (Or.inl e)), fun e => hb ((hT v hv).2.1 (Or.inr (by rw [← same v hv]; exact e)))⟩
      exact chainOk_iter N v (hch v hv h1)
end
end Go.Proofs.Ytaeipfpdimjfoaa
