/-
  From the program's numbers to the plain law's. Conditions: those of each lemma.
-/
import Derived.Test.YtaeipfpdimjfoaaPrW
import Derived.Test.YtaeipfpdimjfoaaGrx
set_option linter.unusedVariables false
set_option linter.unusedSimpArgs false
namespace Go.Proofs.Ytaeipfpdimjfoaa

def toN (e : Ed) : En := ⟨e.f.toNat, e.t.toNat, e.w.toNat⟩
def dN (D : List Int) : Nat → Nat := fun v => (D.getD v 0).toNat
theorem getD_all {D : List Int} {P : Int → Prop} (h : ∀ x, x ∈ D → P x) {i : Nat} (hi : i < D.length) : P (D.getD i 0) := by
  have : D[i]? = some (D.getD i 0) := by simp [List.getD_eq_getElem?_getD, hi]
  exact h _ (List.mem_of_getElem? this)
theorem weigh_right {N : Int} {E : List Ed} (h : weighB N E = true) : rightB N E = true := by
  unfold weighB at h
  simp only [Bool.and_eq_true] at h
  exact h.1
theorem weigh_mem {N : Int} {E : List Ed} (h : weighB N E = true) {e : Ed} (he : e ∈ E) : 0 ≤ e.w ∧ e.w ≤ 9223372036854775807 / N := by
  have hr := weigh_right h
  have hN := right_mem hr he
  have hmx : max N 1 = N := by omega
  unfold weighB at h
  simp only [Bool.and_eq_true] at h
  have := List.all_eq_true.1 h.2 e he
  rw [hmx] at this
  simp only [Bool.and_eq_true, decide_eq_true_eq] at this
  exact this
/-- A graph whose ways can be weighed, in naturals. -/
theorem weigh_gok {N : Nat} {E : List Ed} (h : weighB (N : Int) E = true) {s : Nat} (hs : s < N) : GOk (E.map toN) s N (9223372036854775807 / N) := by
  have hr := weigh_right h
  have hb := right_bd hr
  refine ⟨hs, Nat.div_pos (by omega) (by omega), by unfold inf; exact Nat.mul_div_le _ _, fun e he => ?_⟩
  obtain ⟨e', he', rfl⟩ := List.mem_map.1 he
  have h1 := right_mem hr he'
  have h2 := weigh_mem h he'
  have h3 : (9223372036854775807 : Int) / (N : Int) = ((9223372036854775807 / N : Nat) : Int) := (Int.natCast_ediv 9223372036854775807 N).symm
  rw [h3] at h2
  unfold toN
  generalize 9223372036854775807 / N = q at *
  dsimp only
  omega
/-- What feasible answers. -/
theorem feasB_iff {N : Int} {E : List Ed} {D : List Int} (hr : rightB N E = true) (hN : (D.length : Int) = N) (hw : ∀ e, e ∈ E → 0 ≤ e.w) (hb : ∀ x, x ∈ D → 0 ≤ x ∧ x ≤ 9223372036854775807) :
    feasB D E = true ↔ Feas (E.map toN) (dN D) := by
  have key : ∀ e, e ∈ E → (nearB D e = false ↔ (dN D (toN e).f ≠ inf → dN D (toN e).t ≤ dN D (toN e).f + (toN e).w)) := fun e he => by
    have h1 := right_mem hr he
    have h2 := getD_all hb (i := e.f.toNat) (by omega)
    have h3 := getD_all hb (i := e.t.toNat) (by omega)
    have h4 := hw e he
    unfold nearB dN toN inf
    dsimp only
    generalize D.getD e.f.toNat 0 = x at *
    generalize D.getD e.t.toNat 0 = y at *
    generalize e.w = z at *
    simp only [Bool.and_eq_false_iff, decide_eq_false_iff_not]
    constructor
    · intro h hx
      rcases h with (h | h) | h <;> omega
    · intro h
      by_cases hx : x = 9223372036854775807
      · exact Or.inl (Or.inl (by omega))
      · have := h (by omega)
        exact Or.inr (by omega)
  unfold feasB
  constructor
  · intro h e he
    obtain ⟨e', he', rfl⟩ := List.mem_map.1 he
    refine (key e' he').1 ?_
    cases hn : nearB D e' with
    | false => rfl
    | true => rw [List.any_eq_true.2 ⟨e', he', hn⟩] at h; cases h
  · intro h
    have : E.any (nearB D) = false := by
      cases ha : E.any (nearB D) with
      | false => rfl
      | true =>
        obtain ⟨e, he, hn⟩ := List.any_eq_true.1 ha
        rw [(key e he).2 (h _ (List.mem_map.2 ⟨e, he, rfl⟩))] at hn
        cases hn
    rw [this]; rfl
end Go.Proofs.Ytaeipfpdimjfoaa
