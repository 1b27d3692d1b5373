/-
  Shortest ways, plainly: so many goings-over as there are vertices are enough. Conditions: those of each lemma.
-/
import Derived.Test.YtaeipfpdimjfoaaPrP
set_option linter.unusedVariables false
set_option linter.unusedSimpArgs false
namespace Go.Proofs.Ytaeipfpdimjfoaa

/-- A graph whose ways can be weighed, no edge above m. -/
structure GOk (E : List En) (s N m : Nat) : Prop where
  src : s < N
  pos : 0 < m
  nm : N * m ≤ inf
  e : ∀ e, e ∈ E → e.f < N ∧ e.t < N ∧ e.w ≤ m
/-- No edge leads nearer. -/
def Feas (E : List En) (d : Nat → Nat) : Prop := ∀ e, e ∈ E → d e.f ≠ inf → d e.t ≤ d e.f + e.w
def sumN (d : Nat → Nat) (n : Nat) : Nat := ((List.range n).map d).sum
theorem sumN_succ (d : Nat → Nat) (n : Nat) : sumN d (n + 1) = sumN d n + d n := by
  unfold sumN; rw [List.range_succ, List.map_append, List.sum_append]; simp
theorem sumN_le {d d' : Nat → Nat} (h : ∀ v, d' v ≤ d v) (n : Nat) : sumN d' n ≤ sumN d n := by
  induction n with
  | zero => exact Nat.le_refl _
  | succ n ih => rw [sumN_succ, sumN_succ]; have := h n; omega
theorem sumN_lt {d d' : Nat → Nat} (h : ∀ v, d' v ≤ d v) {n x : Nat} (hx : x < n) (hl : d' x < d x) : sumN d' n < sumN d n := by
  induction n with
  | zero => omega
  | succ n ih =>
    rw [sumN_succ, sumN_succ]
    by_cases e : x = n
    · subst e; have := sumN_le h x; omega
    · have := ih (by omega); have := h n; omega
section
variable {E : List En} {s N m : Nat} {d L : Nat → Nat}
theorem fold_le (l : List En) (d : Nat → Nat) (v : Nat) : l.foldl rel1 d v ≤ d v := by
  induction l generalizing d with
  | nil => exact Nat.le_refl _
  | cons e l ih => exact Nat.le_trans (ih _) (rel1_le d e v)
theorem fold_rx (g : GOk E s N m) (l : List En) (hl : ∀ e, e ∈ l → e ∈ E) (h : Rx E s N m d) : Rx E s N m (l.foldl rel1 d) := by
  induction l generalizing d with
  | nil => exact h
  | cons e l ih =>
    have he := hl e (by simp)
    obtain ⟨a, b, c⟩ := g.e e he
    exact ih (fun x hx => hl x (by simp [hx])) (rel1_rx h g.nm g.pos he a b c)
theorem passes_rx (g : GOk E s N m) (k : Nat) : Rx E s N m (passes E s k) := by
  induction k with
  | zero => exact d0_rx g.src (by unfold inf; omega)
  | succ k ih => exact fold_rx g E (fun _ h => h) ih
theorem passes_le (E : List En) (s k v : Nat) : passes E s (k + 1) v ≤ passes E s k v := fold_le E _ v
theorem rel1_ne {d : Nat → Nat} {e : En} (h : rel1 d e ≠ d) : rel1 d e e.t < d e.t := by
  unfold rel1 at h ⊢
  split
  · rename_i hc; unfold setN; rw [if_pos rfl]; exact hc.2
  · rename_i hc; rw [if_neg hc] at h; exact absurd rfl h
theorem fold_fix (l : List En) (hl : ∀ e, e ∈ l → e.t < N) (d : Nat → Nat) (h : ¬ sumN (l.foldl rel1 d) N < sumN d N) : ∀ e, e ∈ l → rel1 d e = d := by
  induction l generalizing d with
  | nil => intro e he; cases he
  | cons a l ih =>
    simp only [List.foldl_cons] at h
    have h1 := sumN_le (fold_le l (rel1 d a)) N
    have ha : rel1 d a = d := Classical.byContradiction fun hn => by
      have := sumN_lt (rel1_le d a) (hl a (by simp)) (rel1_ne hn)
      omega
    rw [ha] at h
    intro e he
    rcases List.mem_cons.1 he with rfl | he
    · exact ha
    · exact ih (fun x hx => hl x (by simp [hx])) d h e he
theorem fix_ex (g : GOk E s N m) : ∃ K, ∀ e, e ∈ E → rel1 (passes E s K) e = passes E s K := by
  have key : ∀ b k, sumN (passes E s k) N ≤ b → ∃ K, ∀ e, e ∈ E → rel1 (passes E s K) e = passes E s K := by
    intro b
    induction b with
    | zero =>
      intro k hk
      exact ⟨k, fold_fix E (fun e he => (g.e e he).2.1) _ (by omega)⟩
    | succ b ih =>
      intro k hk
      by_cases h : sumN (E.foldl rel1 (passes E s k)) N < sumN (passes E s k) N
      · exact ih (k + 1) (by show sumN (E.foldl rel1 (passes E s k)) N ≤ b; omega)
      · exact ⟨k, fold_fix E (fun e he => (g.e e he).2.1) _ h⟩
  exact key _ 0 (Nat.le_refl _)
theorem fix_feas {d : Nat → Nat} (h : ∀ e, e ∈ E → rel1 d e = d) : Feas E d := by
  intro e he hf
  have h1 := h e he
  apply Nat.le_of_not_lt
  intro hlt
  have h2 : rel1 d e e.t = d e.f + e.w := by unfold rel1; rw [if_pos ⟨hf, hlt⟩]; unfold setN; rw [if_pos rfl]
  rw [h1] at h2
  omega
/-- What is feasible, and below, stays below. -/
theorem below1 (hF : Feas E L) (hi : ∀ v, d v ≤ inf) {e : En} (he : e ∈ E) (h : ∀ v, L v ≤ d v) (v : Nat) : L v ≤ rel1 d e v := by
  unfold rel1
  split
  · rename_i hc
    unfold setN
    split
    · rename_i ev
      have h1 := h e.f
      have h3 := hi e.f
      have h2 := hF e he (by omega)
      rw [ev]; omega
    · exact h v
  · exact h v
theorem belowF (hF : Feas E L) (l : List En) (hl : ∀ e, e ∈ l → e ∈ E) (hi : ∀ v, d v ≤ inf) (h : ∀ v, L v ≤ d v) : ∀ v, L v ≤ l.foldl rel1 d v := by
  induction l generalizing d with
  | nil => exact h
  | cons e l ih => exact ih (fun x hx => hl x (by simp [hx])) (fun v => Nat.le_trans (rel1_le d e v) (hi v)) (below1 hF hi (hl e (by simp)) h)
theorem below_passes (g : GOk E s N m) (hF : Feas E L) (h0 : L s = 0) (hi : ∀ v, L v ≤ inf) (k : Nat) : ∀ v, L v ≤ passes E s k v := by
  induction k with
  | zero => intro v; show L v ≤ d0 s v; unfold d0; split; (rename_i e; subst e; omega); exact hi v
  | succ k ih => exact belowF hF E (fun _ h => h) (passes_rx g k).le ih
/-- The first that is settled of some is so by an edge from outside. -/
theorem edge_in (hF : Feas E L) (U : Nat → Prop) (l : List En) (hl : ∀ e, e ∈ l → e ∈ E) (hi : ∀ v, d v ≤ inf) (h : ∀ v, L v ≤ d v) (hU : ∀ v, U v → L v < d v) (hx : ∃ v, U v ∧ l.foldl rel1 d v = L v) :
    ∃ e, e ∈ E ∧ ¬ U e.f ∧ U e.t ∧ L e.f + e.w = L e.t ∧ L e.f ≠ inf := by
  induction l generalizing d with
  | nil => obtain ⟨v, h1, h2⟩ := hx; have := hU v h1; simp only [List.foldl_nil] at h2; omega
  | cons e l ih =>
    have he := hl e (by simp)
    by_cases hu : ∀ v, U v → L v < rel1 d e v
    · exact ih (fun x hx => hl x (by simp [hx])) (fun v => Nat.le_trans (rel1_le d e v) (hi v)) (below1 hF hi he h) hu hx
    · obtain ⟨v, hv⟩ := Classical.not_forall.1 hu
      obtain ⟨h1, h2⟩ := Classical.not_imp.1 hv
      have h3 := below1 hF hi he h v
      have h4 := hU v h1
      have h5 : rel1 d e v = L v := by omega
      have hc : (d e.f ≠ inf ∧ d e.f + e.w < d e.t) ∧ v = e.t := by
        unfold rel1 at h5
        split at h5
        · rename_i hc
          refine ⟨hc, Classical.byContradiction fun hn => ?_⟩
          unfold setN at h5
          rw [if_neg hn] at h5
          omega
        · omega
      obtain ⟨hc, rfl⟩ := hc
      have h6 : rel1 d e e.t = d e.f + e.w := by unfold rel1; rw [if_pos hc]; unfold setN; rw [if_pos rfl]
      have h7 := h e.f
      have h8 := hi e.f
      have h9 := hF e he (by omega)
      have h10 : L e.f = d e.f := by omega
      exact ⟨e, he, fun hn => by have := hU _ hn; omega, h1, by omega, by omega⟩
theorem edge_passes (g : GOk E s N m) (hF : Feas E L) (h0 : L s = 0) (hi : ∀ v, L v ≤ inf) (U : Nat → Prop) (k j : Nat) (hU : ∀ v, U v → L v < passes E s k v) (hx : ∃ v, U v ∧ passes E s (k + j) v = L v) :
    ∃ e, e ∈ E ∧ ¬ U e.f ∧ U e.t ∧ L e.f + e.w = L e.t ∧ L e.f ≠ inf := by
  induction j with
  | zero => obtain ⟨v, h1, h2⟩ := hx; have := hU v h1; simp only [Nat.add_zero] at h2; omega
  | succ j ih =>
    by_cases hj : ∃ v, U v ∧ passes E s (k + j) v = L v
    · exact ih hj
    · have hb := below_passes g hF h0 hi (k + j)
      exact edge_in hF U E (fun _ h => h) (passes_rx g (k + j)).le hb (fun v hv => by
        have h1 := hb v
        have h2 : passes E s (k + j) v ≠ L v := fun h => hj ⟨v, hv, h⟩
        omega) hx
/-- A tight edge from one that is settled settles the other one. -/
theorem edge_sets (hF : Feas E L) (hi : ∀ v, d v ≤ inf) (h : ∀ v, L v ≤ d v) {e : En} (he : e ∈ E) (h1 : d e.f = L e.f) (h2 : L e.f + e.w = L e.t) (h3 : L e.f ≠ inf) : pass E d e.t = L e.t := by
  obtain ⟨l1, l2, hE⟩ := List.append_of_mem he
  have hall := belowF hF E (fun _ h => h) hi h e.t
  have hl1 : ∀ x, x ∈ l1 → x ∈ E := fun x hx => by rw [hE]; simp [hx]
  have ha := belowF hF l1 hl1 hi h e.f
  have hb := fold_le l1 d e.f
  have hup : pass E d e.t ≤ L e.t := by
    unfold pass
    conv => lhs; rw [hE]
    rw [List.foldl_append, List.foldl_cons]
    refine Nat.le_trans (fold_le l2 _ _) ?_
    generalize l1.foldl rel1 d = d1 at *
    have hd : d1 e.f = L e.f := by omega
    unfold rel1
    split
    · unfold setN; rw [if_pos rfl, hd]; omega
    · rename_i hc
      have : ¬ (d1 e.f + e.w < d1 e.t) := fun hlt => hc ⟨by rw [hd]; exact h3, hlt⟩
      omega
  unfold pass at hup ⊢
  omega
def cntS (P : Nat → Prop) [DecidablePred P] (n : Nat) : Nat := ((List.range n).filter (fun v => decide (P v))).length
theorem cntS_succ (P : Nat → Prop) [DecidablePred P] (n : Nat) : cntS P (n + 1) = cntS P n + if P n then 1 else 0 := by
  unfold cntS
  rw [List.range_succ, List.filter_append, List.length_append]
  by_cases h : P n
  · rw [List.filter_cons_of_pos (by simpa using h), if_pos h]; simp
  · rw [List.filter_cons_of_neg (by simpa using h), if_neg h]; simp
theorem cntS_le (P : Nat → Prop) [DecidablePred P] (n : Nat) : cntS P n ≤ n := by
  induction n with
  | zero => simp [cntS]
  | succ n ih => rw [cntS_succ]; split <;> omega
theorem cntS_mono {P Q : Nat → Prop} [DecidablePred P] [DecidablePred Q] (h : ∀ v, P v → Q v) (n : Nat) : cntS P n ≤ cntS Q n := by
  induction n with
  | zero => exact Nat.le_refl _
  | succ n ih =>
    rw [cntS_succ, cntS_succ]
    by_cases e : P n
    · rw [if_pos e, if_pos (h n e)]; omega
    · rw [if_neg e]; omega
theorem cntS_lt {P Q : Nat → Prop} [DecidablePred P] [DecidablePred Q] (h : ∀ v, P v → Q v) {n x : Nat} (hx : x < n) (h1 : ¬ P x) (h2 : Q x) : cntS P n < cntS Q n := by
  induction n with
  | zero => omega
  | succ n ih =>
    rw [cntS_succ, cntS_succ]
    by_cases e : x = n
    · subst e
      have := cntS_mono h x
      rw [if_neg h1, if_pos h2]; omega
    · have := ih (by omega)
      by_cases e2 : P n
      · rw [if_pos e2, if_pos (h n e2)]; omega
      · rw [if_neg e2]; omega
theorem cntS_pos {P : Nat → Prop} [DecidablePred P] {n x : Nat} (hx : x < n) (h : P x) : 0 < cntS P n := by
  induction n with
  | zero => omega
  | succ n ih =>
    rw [cntS_succ]
    by_cases e : x = n
    · subst e; rw [if_pos h]; omega
    · have := ih (by omega); omega
/-- So many goings-over as there are vertices are enough. -/
theorem bf_enough (g : GOk E s N m) : Feas E (passes E s N) := by
  obtain ⟨K, hK⟩ := fix_ex g
  have hF := fix_feas hK
  have hr := passes_rx g K
  have hb := fun k => below_passes g hF hr.src hr.le k
  have key : ∀ k, (∀ v, v < N → passes E s k v = passes E s K v) ∨ k < cntS (fun v => passes E s k v = passes E s K v) N := by
    intro k
    induction k with
    | zero => exact Or.inr (cntS_pos g.src (by rw [hr.src]; show d0 s s = 0; simp [d0]))
    | succ k ih =>
      by_cases hall : ∀ v, v < N → passes E s k v = passes E s K v
      · left
        intro v hv
        have h1 := passes_le E s k v
        have h2 := hb (k + 1) v
        rw [hall v hv] at h1
        omega
      · have ih := ih.resolve_left hall
        right
        obtain ⟨v, hv⟩ := Classical.not_forall.1 hall
        obtain ⟨hv1, hv2⟩ := Classical.not_imp.1 hv
        have hkK : k ≤ K := Classical.byContradiction fun hn => by
          have hmono : ∀ j, passes E s (K + j) v ≤ passes E s K v := fun j => by
            induction j with
            | zero => exact Nat.le_refl _
            | succ j ih2 => exact Nat.le_trans (passes_le E s (K + j) v) ih2
          have h1 := hmono (k - K)
          rw [show K + (k - K) = k by omega] at h1
          have h2 := hb k v
          omega
        obtain ⟨e, he, h1, h2, h3, h4⟩ := edge_passes g hF hr.src hr.le (fun v => v < N ∧ passes E s k v ≠ passes E s K v) k (K - k) (fun v hv => by
          have := hb k v
          have := hv.2
          omega) ⟨v, ⟨hv1, hv2⟩, by rw [show k + (K - k) = K by omega]⟩
        have hef : passes E s k e.f = passes E s K e.f := Classical.byContradiction fun hn => h1 ⟨(g.e e he).1, hn⟩
        have hset := edge_sets hF (passes_rx g k).le (hb k) he hef h3 h4
        have := cntS_lt (P := fun v => passes E s k v = passes E s K v) (Q := fun v => passes E s (k + 1) v = passes E s K v) (fun v hv => by
          have h1 := passes_le E s k v
          have h2 := hb (k + 1) v
          rw [hv] at h1
          omega) h2.1 h2.2 hset
        omega
  have hN : ∀ v, v < N → passes E s N v = passes E s K v := by
    rcases key N with h | h
    · exact h
    · have := cntS_le (fun v => passes E s N v = passes E s K v) N
      omega
  intro e he hf
  obtain ⟨a, b, _⟩ := g.e e he
  rw [hN _ a] at hf ⊢
  rw [hN _ b]
  exact hF e he hf
/-- Whatever is feasible is no more than a way's weight. -/
theorem feas_way (hF : Feas E L) (h0 : L s = 0) (hi : ∀ v, L v ≤ inf) {v x : Nat} (h : WayN E s v x) (hx : x < inf) : L v ≤ x := by
  induction h with
  | here => omega
  | on e he _ hf ih =>
    subst hf
    have h1 := ih (by omega)
    have h2 := hF e he (by omega)
    omega
end
end Go.Proofs.Ytaeipfpdimjfoaa
