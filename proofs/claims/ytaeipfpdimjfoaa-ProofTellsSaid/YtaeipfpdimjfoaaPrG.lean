/-
  The law's own small question: is a graph more than is looked at. Conditions: those of each lemma.
-/
import Derived.Test.YtaeipfpdimjfoaaGrx
set_option linter.unusedVariables false
set_option linter.unusedSimpArgs false
namespace Go.Proofs.Ytaeipfpdimjfoaa
open Go Go.RowKit

def greatB (N : Int) (n : Nat) : Bool := decide ((n : Int) > 60) || (decide (N > 40) && decide (N ≤ 4096))
theorem great_any (w : World) (N : Int) (a : Option Addr) (n cap : Nat) : Calls Try.prog 5 #[.agg #[.int .i64 N, .slice a n cap]] w fun r w' => r = .returned (.bool (greatB N n)) ∧ Upd [] w w' := by
  unfold greatB
  by_cases h1 : (n : Int) > 60
  · have h1b : decide ((n : Int) > 60) = true := by simpa using h1
    go_enter Try.func5, Try.ntmps5
    go_wp2
    go_ret
    exact ⟨ret_bool (by first | (simp; done) | (simp; omega)), by (repeat (first | assumption | exact Upd.refl _ _ | refine Upd.alloc ?_ _ | refine Upd.drew ?_ | refine Upd.drewN ?_ _ | refine Upd.setCell ?_ ?_ _ | focus (left; simp; done) | focus (right; simp; done) | focus (right; simp; omega)))⟩
  · have h1b : decide ((n : Int) > 60) = false := by simpa using h1
    by_cases h2 : N > 40
    · have h2b : decide (N > 40) = true := by simpa using h2
      go_enter Try.func5, Try.ntmps5
      go_wp2
      go_ret
      exact ⟨ret_bool (by first | (simp; done) | (simp; omega)), by (repeat (first | assumption | exact Upd.refl _ _ | refine Upd.alloc ?_ _ | refine Upd.drew ?_ | refine Upd.drewN ?_ _ | refine Upd.setCell ?_ ?_ _ | focus (left; simp; done) | focus (right; simp; done) | focus (right; simp; omega)))⟩
    · have h2b : decide (N > 40) = false := by simpa using h2
      go_enter Try.func5, Try.ntmps5
      go_wp2
      go_ret
      exact ⟨ret_bool (by first | (simp; done) | (simp; omega)), by (repeat (first | assumption | exact Upd.refl _ _ | refine Upd.alloc ?_ _ | refine Upd.drew ?_ | refine Upd.drewN ?_ _ | refine Upd.setCell ?_ ?_ _ | focus (left; simp; done) | focus (right; simp; done) | focus (right; simp; omega)))⟩
end Go.Proofs.Ytaeipfpdimjfoaa
