/-
  Two small lemmas on lists of integers. Conditions: those of each lemma.
-/
import Derived.Test.YtaeipfpdimjfoaaInts
import Derived.Lib.Hide
import Derived.StillTailTactics
set_option linter.unusedVariables false
set_option linter.unusedSimpArgs false
namespace Go.Proofs.Ytaeipfpdimjfoaa
theorem same_len_ne {a b : List Int} (h : a.length ≠ b.length) : a ≠ b := fun e => h (by rw [e])
theorem same_at {a b : List Int} (hl : a.length = b.length) (h : ∀ k, k < a.length → a.getD k 0 = b.getD k 0) : a = b := by
  apply List.ext_getElem hl
  intro i h1 h2
  have := h i h1
  simpa [List.getD_eq_getElem?_getD, h1, h2] using this
end Go.Proofs.Ytaeipfpdimjfoaa
