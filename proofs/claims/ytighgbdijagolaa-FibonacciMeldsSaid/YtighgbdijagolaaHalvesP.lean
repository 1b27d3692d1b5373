/-
  Two heaps with keys, melded, one lowered below all, one deleted (plain). Conditions: those of each lemma.
-/
import Derived.Test.YtighgbdijagolaaSortP
import Derived.Test.YtighgbdijagolaaNestB
set_option linter.unusedVariables false
set_option linter.unusedSimpArgs false
namespace Go.Proofs.Ytighgbdijagolaa
open Go Go.RowKit

/-- Two heaps with the first so many of some keys. -/
def halfN (ks : List Int) (hf : Nat → Int) (i : Nat) : NS := ⟨[false, true, true], (List.range ks.length).map fun j => if j < i then ⟨hf j, ks.getD j 0, 1⟩ else Cl.z⟩
section
variable {ks : List Int} {hf : Nat → Int}
theorem halfN_len (i : Nat) : (halfN ks hf i).cs.length = ks.length := by simp [halfN]
theorem halfN_c (i j : Nat) (hj : j < ks.length) : (halfN ks hf i).c j = if j < i then ⟨hf j, ks.getD j 0, 1⟩ else Cl.z := by
  unfold NS.c halfN
  simp [List.getD_eq_getElem?_getD, hj]
theorem halfN_zero (hf : Nat → Int) : makeN (makeN (NS.new ks.length)) = halfN ks hf 0 := by
  rw [sortN_zero ks 0]
  unfold makeN sortN
  rw [if_neg (by simp)]
  unfold halfN
  congr 1
theorem halfN_put (hh : ∀ j, hf j = 1 ∨ hf j = 2) (i : Nat) (hi : i < ks.length) : putB (halfN ks hf i) (hf i) i = true ∧ putN (halfN ks hf i) (hf i) i (ks.getD i 0) 1 = halfN ks hf (i + 1) := by
  have hB : putB (halfN ks hf i) (hf i) i = true := by
    rw [putB_iff]
    refine ⟨?_, (slotN_iff _ _).2 (by rw [halfN_len]; omega), ?_⟩
    · rcases hh i with h | h <;> rw [h] <;> simp [hasN, halfN]
    · have : ¬ inN (halfN ks hf i) (i : Int) = true := fun h => by
        have h1 := ((inN_nat _ _).1 h).2
        rw [halfN_c _ _ hi, if_neg (by omega)] at h1
        exact absurd h1 (by simp [Cl.z])
      simpa using this
  refine ⟨hB, ?_⟩
  unfold putN
  rw [if_pos hB]
  unfold withN halfN
  congr 1
  refine List.ext_getElem? (fun j => ?_)
  simp only [Int.toNat_natCast, List.getElem?_set, List.length_map, List.length_range]
  by_cases e : i = j
  · subst e; simp [hi]
  · rw [if_neg e]
    by_cases hj : j < ks.length
    · simp only [List.getElem?_map, List.getElem?_range hj, Option.map_some]
      by_cases h1 : j < i
      · rw [if_pos h1, if_pos (by omega)]
      · rw [if_neg h1, if_neg (by omega)]
    · simp [hj]
theorem half_join : joinB (halfN ks hf ks.length) 1 2 = true := by
  rw [joinB_iff]; exact ⟨by simp [hasN, halfN], by simp [hasN, halfN], by omega⟩
def meldN (ks : List Int) (hf : Nat → Int) : NS := joinN (halfN ks hf ks.length) 1 2
theorem meldN_len : (meldN ks hf).cs.length = ks.length := by unfold meldN; rw [joinN_len, halfN_len]
theorem meldN_c (hh : ∀ j, hf j = 1 ∨ hf j = 2) (y : Nat) (hy : y < ks.length) : (meldN ks hf).c y = ⟨1, ks.getD y 0, 1⟩ := by
  unfold meldN
  rw [join_c half_join, halfN_c _ _ hy, if_pos hy]
  rcases hh y with h | h
  · simp [h]
  · simp [h, halfN_len, hy]
theorem meldN_has : hasN (meldN ks hf) 1 = true ∧ hasN (meldN ks hf) 2 = false ∧ joinB (meldN ks hf) 1 2 = false := by
  have a : hasN (meldN ks hf) 1 = true := by unfold meldN; rw [joinN_has half_join]; simp [hasN, halfN]
  have b : hasN (meldN ks hf) 2 = false := by unfold meldN; rw [joinN_has half_join]; simp
  refine ⟨a, b, ?_⟩
  unfold joinB; rw [a, b]; rfl
theorem meldN_lenN (hh : ∀ j, hf j = 1 ∨ hf j = 2) : lenN (meldN ks hf) 1 = ks.length := by
  have : ∀ (cs : List Cl), (∀ c ∈ cs, c.i = 1) → lenL cs 1 = cs.length := fun cs h => by
    unfold lenL
    rw [List.filter_eq_self.2 (fun c hc => by simp [h c hc])]
  unfold lenN
  rw [this, meldN_len]
  intro c hc
  obtain ⟨j, hj, e⟩ := List.getElem_of_mem hc
  have hj' : j < ks.length := by rw [meldN_len] at hj; exact hj
  have := meldN_c hh j hj'
  unfold NS.c at this
  rw [List.getD_eq_getElem?_getD, List.getElem?_eq_getElem hj] at this
  simp at this
  rw [← e, this]
def inRange (n : Nat) (x : Int) : Bool := decide (0 ≤ x) && decide (x < n)
def lowestN (ks : List Int) (hf : Nat → Int) (low : Int) : NS := if inRange ks.length low then lowN (meldN ks hf) low (-9223372036854775808) 0 else meldN ks hf
theorem low_yes (hh : ∀ j, hf j = 1 ∨ hf j = 2) {low : Int} (hl : inRange ks.length low = true) (hk : ∀ j, -9223372036854775808 ≤ ks.getD j 0) : lowB (meldN ks hf) low (-9223372036854775808) 0 = true := by
  unfold inRange at hl
  simp only [Bool.and_eq_true, decide_eq_true_eq] at hl
  obtain ⟨y, rfl⟩ : ∃ y : Nat, low = y := ⟨low.toNat, by omega⟩
  have hy : y < ks.length := by omega
  unfold lowB lessE
  have hin : inN (meldN ks hf) (y : Int) = true := (inN_nat _ y).2 ⟨by rw [meldN_len]; exact hy, by rw [meldN_c hh y hy]; show (0 : Int) < 1; decide⟩
  rw [hin, Int.toNat_natCast, meldN_c hh y hy]
  have := hk y
  simp only [Bool.true_and, Bool.not_eq_true']
  split
  · exact decide_eq_false (by omega)
  · exact decide_eq_false (by omega)
theorem lowestN_len (low : Int) : (lowestN ks hf low).cs.length = ks.length := by unfold lowestN; split; rw [low_len, meldN_len]; exact meldN_len
theorem lowestN_c (hh : ∀ j, hf j = 1 ∨ hf j = 2) (hk : ∀ j, -9223372036854775808 ≤ ks.getD j 0) (low : Int) (y : Nat) (hy : y < ks.length) : (lowestN ks hf low).c y = if (y : Int) = low then ⟨1, -9223372036854775808, 0⟩ else ⟨1, ks.getD y 0, 1⟩ := by
  unfold lowestN
  split
  · rename_i hl
    have hB := low_yes hh hl hk
    unfold inRange at hl
    simp only [Bool.and_eq_true, decide_eq_true_eq] at hl
    obtain ⟨z, rfl⟩ : ∃ z : Nat, low = z := ⟨low.toNat, by omega⟩
    rw [low_c hB (by rw [meldN_len]; omega), meldN_c hh y hy, meldN_c hh z (by omega)]
    by_cases e : y = z
    · rw [if_pos e, if_pos (by omega)]
    · rw [if_neg e, if_neg (by omega)]
  · rename_i hl
    rw [meldN_c hh y hy, if_neg]
    intro e
    unfold inRange at hl
    simp at hl
    omega
theorem lowestN_in (hh : ∀ j, hf j = 1 ∨ hf j = 2) (hk : ∀ j, -9223372036854775808 ≤ ks.getD j 0) (low : Int) (y : Nat) (hy : y < ks.length) : inN (lowestN ks hf low) (y : Int) = true := by
  refine (inN_nat _ y).2 ⟨by rw [lowestN_len]; exact hy, ?_⟩
  rw [lowestN_c hh hk low y hy]
  split
  · show (0 : Int) < 1; decide
  · show (0 : Int) < 1; decide
def goneB (n : Nat) (low gone : Int) : Bool := inRange n gone && decide (gone ≠ low)
def lastN (ks : List Int) (hf : Nat → Int) (low gone : Int) : NS := if goneB ks.length low gone then dropN (lowestN ks hf low) gone else lowestN ks hf low
theorem lastN_len (low gone : Int) : (lastN ks hf low gone).cs.length = ks.length := by unfold lastN; split; rw [drop_len, lowestN_len]; exact lowestN_len _
theorem lastN_c (hh : ∀ j, hf j = 1 ∨ hf j = 2) (hk : ∀ j, -9223372036854775808 ≤ ks.getD j 0) (low gone : Int) (y : Nat) (hy : y < ks.length) :
    (lastN ks hf low gone).c y = if goneB ks.length low gone = true ∧ (y : Int) = gone then Cl.z else if (y : Int) = low then ⟨1, -9223372036854775808, 0⟩ else ⟨1, ks.getD y 0, 1⟩ := by
  unfold lastN
  split
  · rename_i hg
    have hg' := hg
    unfold goneB inRange at hg'
    simp only [Bool.and_eq_true, decide_eq_true_eq] at hg'
    obtain ⟨z, rfl⟩ : ∃ z : Nat, gone = z := ⟨gone.toNat, by omega⟩
    rw [drop_c (lowestN_in hh hk low z (by omega)), lowestN_c hh hk low y hy]
    by_cases e : y = z
    · rw [if_pos e, if_pos ⟨hg, by omega⟩]
    · rw [if_neg e, if_neg (show ¬ (goneB ks.length low (z : Int) = true ∧ (y : Int) = (z : Int)) from fun h => e (by omega))]
  · rename_i hg
    rw [lowestN_c hh hk low y hy, if_neg (show ¬ (goneB ks.length low gone = true ∧ (y : Int) = gone) from fun h => hg h.1)]
/-- The lowered one is first. -/
theorem lastN_min (hh : ∀ j, hf j = 1 ∨ hf j = 2) (hk : ∀ j, -9223372036854775808 ≤ ks.getD j 0) (low gone : Int) (hl : inRange ks.length low = true) : minN (lastN ks hf low gone) 1 = some low.toNat := by
  have hl' := hl
  unfold inRange at hl'
  simp only [Bool.and_eq_true, decide_eq_true_eq] at hl'
  obtain ⟨z, rfl⟩ : ∃ z : Nat, low = z := ⟨low.toNat, by omega⟩
  have hz : z < ks.length := by omega
  have hng : ¬ (goneB ks.length (z : Int) gone = true ∧ (z : Int) = gone) := fun h => by
    have := h.1; unfold goneB at this; simp only [Bool.and_eq_true, decide_eq_true_eq] at this; omega
  have ez : (lastN ks hf z gone).c z = ⟨1, -9223372036854775808, 0⟩ := by rw [lastN_c hh hk _ _ z hz, if_neg hng, if_pos rfl]
  rw [Int.toNat_natCast]
  refine (minN_some (by omega)).2 ⟨by rw [lastN_len]; exact hz, by rw [ez], fun y hy hyi => ?_⟩
  rw [lastN_len] at hy
  by_cases e : y = z
  · exact Or.inl e
  · right
    rw [lastN_c hh hk _ _ y hy] at hyi
    have hy2 : (lastN ks hf z gone).c y = ⟨1, ks.getD y 0, 1⟩ := by
      rw [lastN_c hh hk _ _ y hy]
      split
      · rename_i h; rw [if_pos h] at hyi; exact absurd hyi (by simp [Cl.z])
      · rw [if_neg (by omega)]
    unfold lt3
    rw [ez, hy2]
    have := hk y
    dsimp only
    omega
theorem lastN_lenN (low gone : Int) : lenN (lastN ks hf low gone) 1 ≤ ks.length := by
  have := lenL_le (lastN ks hf low gone).cs 1
  rw [lastN_len] at this
  exact this
/-- What is gone does not come out. -/
def Gone (A : NS) (low gone : Int) : Prop := gone ≠ low → ∀ y : Nat, (y : Int) = gone → (A.c y).i ≠ 1
theorem gone_last (hh : ∀ j, hf j = 1 ∨ hf j = 2) (hk : ∀ j, -9223372036854775808 ≤ ks.getD j 0) (low gone : Int) : Gone (lastN ks hf low gone) low gone := fun hne y hy h => by
  by_cases hyl : y < ks.length
  · rw [lastN_c hh hk _ _ y hyl, if_pos ⟨by unfold goneB inRange; simp; omega, hy⟩] at h
    exact absurd h (by simp [Cl.z])
  · rw [c_far (by rw [lastN_len]; omega)] at h
    exact absurd h (by simp [Cl.z])
theorem gone_drop {A : NS} {low gone : Int} (h : Gone A low gone) {m : Nat} (hin : inN A (m : Int) = true) : Gone (dropN A m) low gone := fun hne y hy hi => by
  rw [drop_c hin] at hi
  split at hi
  · exact absurd hi (by simp [Cl.z])
  · exact h hne y hy hi
theorem gone_min {A : NS} {low gone : Int} (h : Gone A low gone) {m : Nat} (hm : minN A 1 = some m) (hne : gone ≠ low) : (m : Int) ≠ gone := fun e => h hne m e (minN_in hm).2.2.1
end
end Go.Proofs.Ytighgbdijagolaa
