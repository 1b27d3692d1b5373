/-
  Shortest ways, plainly: edges that are gone over again and again (numbers, no program). Conditions: those of each lemma.
-/
import Derived.Test.YtaeipfpdimjfoaaBase
set_option linter.unusedVariables false
set_option linter.unusedSimpArgs false
namespace Go.Proofs.Ytaeipfpdimjfoaa

/-- An edge of naturals. -/
structure En where
  f : Nat
  t : Nat
  w : Nat
def inf : Nat := 9223372036854775807
def setN (d : Nat → Nat) (x v : Nat) : Nat → Nat := fun y => if y = x then v else d y
/-- One edge is gone over. -/
def rel1 (d : Nat → Nat) (e : En) : Nat → Nat := if d e.f ≠ inf ∧ d e.f + e.w < d e.t then setN d e.t (d e.f + e.w) else d
def pass (E : List En) (d : Nat → Nat) : Nat → Nat := E.foldl rel1 d
def d0 (s : Nat) : Nat → Nat := fun v => if v = s then 0 else inf
def passes (E : List En) (s : Nat) : Nat → (Nat → Nat)
  | 0 => d0 s
  | k + 1 => pass E (passes E s k)
/-- How many are reached, of the first n. -/
def cntF (d : Nat → Nat) (n : Nat) : Nat := ((List.range n).filter (fun v => decide (d v ≠ inf))).length
theorem cntF_succ (d : Nat → Nat) (n : Nat) : cntF d (n + 1) = cntF d n + if d n ≠ inf then 1 else 0 := by
  unfold cntF
  rw [List.range_succ, List.filter_append, List.length_append]
  by_cases h : d n = inf
  · rw [List.filter_cons_of_neg (by simpa using h), if_neg (by simpa using h)]; simp
  · rw [List.filter_cons_of_pos (by simpa using h), if_pos h]; simp
theorem cntF_le (d : Nat → Nat) (n : Nat) : cntF d n ≤ n := by
  induction n with
  | zero => simp [cntF]
  | succ n ih => rw [cntF_succ]; split <;> omega
theorem cntF_eq {d d' : Nat → Nat} {n : Nat} (h : ∀ v, v < n → (d v = inf ↔ d' v = inf)) : cntF d n = cntF d' n := by
  induction n with
  | zero => rfl
  | succ n ih =>
    rw [cntF_succ, cntF_succ, ih (fun v hv => h v (by omega))]
    have := h n (by omega)
    by_cases e : d n = inf
    · rw [if_neg (by simpa using e), if_neg (by simpa using this.1 e)]
    · rw [if_pos e, if_pos (fun e2 => e (this.2 e2))]
theorem cntF_set {d : Nat → Nat} {n x v : Nat} (hx : x < n) (h1 : d x = inf) (h2 : v ≠ inf) : cntF (setN d x v) n = cntF d n + 1 := by
  induction n with
  | zero => omega
  | succ n ih =>
    rw [cntF_succ, cntF_succ]
    by_cases e : x = n
    · subst e
      have : cntF (setN d x v) x = cntF d x := cntF_eq (fun y hy => by unfold setN; rw [if_neg (by omega)])
      rw [this, if_pos (by unfold setN; rw [if_pos rfl]; exact h2), if_neg (by simpa using h1)]
    · rw [ih (by omega)]
      have : setN d x v n = d n := by unfold setN; rw [if_neg (by omega)]
      rw [this]
      split <;> omega
/-- A way of so great a weight. -/
inductive WayN (E : List En) (s : Nat) : Nat → Nat → Prop
  | here : WayN E s s 0
  | on {u x : Nat} (e : En) : e ∈ E → WayN E s u x → e.f = u → WayN E s e.t (x + e.w)
/-- What holds of each state on the way. -/
structure Rx (E : List En) (s N m : Nat) (d : Nat → Nat) : Prop where
  src : d s = 0
  le : ∀ v, d v ≤ inf
  bd : ∀ v, v < N → d v ≠ inf → d v + m ≤ cntF d N * m
  way : ∀ v, d v ≠ inf → WayN E s v (d v)
section
variable {E : List En} {s N m : Nat} {d : Nat → Nat}
theorem Rx.cnt (h : Rx E s N m d) : cntF d N ≤ N := cntF_le _ _
theorem Rx.sum (h : Rx E s N m d) (hm : N * m ≤ inf) {e : En} (hf : e.f < N) (hw : e.w ≤ m) (hd : d e.f ≠ inf) : d e.f + e.w ≤ inf := by
  have h1 := h.bd e.f hf hd
  have h2 : cntF d N * m ≤ N * m := Nat.mul_le_mul_right m (cntF_le _ _)
  omega
theorem Rx.lt (h : Rx E s N m d) (hm : N * m ≤ inf) (hm0 : 0 < m) {v : Nat} (hv : v < N) (hd : d v ≠ inf) : d v < inf := by
  have := h.le v; omega
theorem d0_rx (hs : s < N) (hm : 0 < inf) : Rx E s N m (d0 s) := by
  have h1 : cntF (d0 s) N = 1 := by
    have e : d0 s = setN (fun _ => inf) s 0 := rfl
    rw [e, cntF_set hs rfl (by unfold inf; omega)]
    have : ∀ n, cntF (fun _ => inf) n = 0 := fun n => by
      induction n with
      | zero => rfl
      | succ n ih => rw [cntF_succ, ih]; simp
    rw [this]
  refine ⟨by simp [d0], fun v => ?_, fun v hv hd => ?_, fun v hd => ?_⟩
  · unfold d0; split <;> omega
  · have : v = s := by
      by_cases e : v = s
      · exact e
      · exact absurd (by unfold d0; rw [if_neg e]) hd
    subst this
    rw [h1]; simp [d0]
  · have : v = s := by
      by_cases e : v = s
      · exact e
      · exact absurd (by unfold d0; rw [if_neg e]) hd
    subst this
    have : d0 v v = 0 := by simp [d0]
    rw [this]; exact .here
theorem rel1_le (d : Nat → Nat) (e : En) (v : Nat) : rel1 d e v ≤ d v := by
  unfold rel1
  split
  · rename_i h
    unfold setN
    split
    · rename_i e2; subst e2; omega
    · exact Nat.le_refl _
  · exact Nat.le_refl _
theorem rel1_rx (h : Rx E s N m d) (hm : N * m ≤ inf) (hm0 : 0 < m) {e : En} (he : e ∈ E) (hf : e.f < N) (ht : e.t < N) (hw : e.w ≤ m) : Rx E s N m (rel1 d e) := by
  have hle := rel1_le d e
  unfold rel1 at hle ⊢
  split
  · rename_i hc
    rw [if_pos hc] at hle
    have hlt : d e.f + e.w < inf := by have := h.le e.t; omega
    have hcn : cntF d N ≤ cntF (setN d e.t (d e.f + e.w)) N := by
      by_cases hi : d e.t = inf
      · rw [cntF_set ht hi (by omega)]; omega
      · rw [cntF_eq (d := setN d e.t (d e.f + e.w)) (d' := d) (fun v hv => by
          unfold setN
          split
          · rename_i ev; subst ev; constructor
            · intro; omega
            · intro h2; exact absurd h2 hi
          · exact Iff.rfl)]
        exact Nat.le_refl _
    refine ⟨?_, fun v => ?_, fun v hv hd => ?_, fun v hd => ?_⟩
    · have := hle s; rw [h.src] at this; omega
    · have := hle v; have := h.le v; omega
    · by_cases ev : v = e.t
      · have e1 : setN d e.t (d e.f + e.w) v = d e.f + e.w := by unfold setN; rw [if_pos ev]
        rw [e1]
        by_cases hi : d e.t = inf
        · rw [cntF_set ht hi (by omega), Nat.succ_mul]
          have := h.bd e.f hf hc.1
          omega
        · have h1 := h.bd e.t ht hi
          have h2 := Nat.mul_le_mul_right m hcn
          omega
      · have e1 : setN d e.t (d e.f + e.w) v = d v := by unfold setN; rw [if_neg ev]
        rw [e1] at hd ⊢
        have h1 := h.bd v hv hd
        have h2 := Nat.mul_le_mul_right m hcn
        omega
    · by_cases ev : v = e.t
      · have e1 : setN d e.t (d e.f + e.w) v = d e.f + e.w := by unfold setN; rw [if_pos ev]
        rw [e1, ev]
        exact .on e he (h.way _ hc.1) rfl
      · have e1 : setN d e.t (d e.f + e.w) v = d v := by unfold setN; rw [if_neg ev]
        rw [e1] at hd ⊢
        exact h.way v hd
  · exact h
end
end Go.Proofs.Ytaeipfpdimjfoaa
