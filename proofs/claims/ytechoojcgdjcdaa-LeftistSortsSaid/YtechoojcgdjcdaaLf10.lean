/-
  Leftist heaps: the example of three things, its values told plainly. Conditions: none.
-/
import Derived.Test.YtechoojcgdjcdaaLf9
set_option linter.unusedVariables false
set_option linter.unusedSimpArgs false
namespace Go.Proofs.Ytechoojcgdjcdaa
open Go Go.RowKit

def ex0 : NS := makeN (NS.new 3)
def ex1 : NS := putN ex0 1 0 1 0
def ex2 : NS := putN ex1 1 1 2 0
def ex3 : NS := putN ex2 1 2 3 0
theorem ex_put : putB ex0 1 0 = true ∧ putB ex1 1 1 = true ∧ putB ex2 1 2 = true := by decide
theorem ex_lt : ¬ lt3 ex2 1 0 ∧ ¬ lt3 ex3 2 0 := by
  have h : (ex2.c 0).k = 1 ∧ (ex2.c 1).k = 2 ∧ (ex3.c 0).k = 1 ∧ (ex3.c 2).k = 3 := by decide
  unfold lt3; omega
theorem ex_m1 : mergeT settleT ex1 .nil (single 0) = (single 0, 0) := mergeT_nil _ _ _
theorem ex_m2 : mergeT settleT ex2 (single 0) (single 1) = (.node 0 (single 1) .nil, 1) := by
  unfold single
  rw [mergeT_node, if_neg ex_lt.1, mergeT_nil]
  rfl
theorem ex_m3 : mergeT settleT ex3 (.node 0 (single 1) .nil) (single 2) = (.node 0 (single 1) (single 2), 1) := by
  unfold single
  rw [mergeT_node, if_neg ex_lt.2, mergeT_nil]
  rfl
def exA (k : Nat) : NS := match k with | 0 => ex0 | 1 => ex1 | 2 => ex2 | _ => ex3
def exR (k : Nat) : BT := match k with | 0 => .nil | 1 => single 0 | 2 => .node 0 (single 1) .nil | _ => .node 0 (single 1) (single 2)
def exT (k : Nat) (q : Nat) : BT := if q = 1 then exR k else .nil
def exK (k : Nat) : Nat := k - 1
theorem ex_step (k : Nat) (hk : k < 3) : putB (exA k) (1 : Nat) (k : Nat) = true ∧ putN (exA k) (1 : Nat) (k : Nat) ((k : Int) + 1) 0 = exA (k + 1) ∧ mergeT settleT (exA (k + 1)) (exT k 1) (single k) = (exR (k + 1), if k = 0 then 0 else 1) := by
  rcases (by omega : k = 0 ∨ k = 1 ∨ k = 2) with rfl | rfl | rfl
  · exact ⟨ex_put.1, rfl, ex_m1⟩
  · exact ⟨ex_put.2.1, rfl, ex_m2⟩
  · exact ⟨ex_put.2.2, rfl, ex_m3⟩
theorem exT_step (k : Nat) : (fun q => if q = 1 then exR (k + 1) else exT k q) = exT (k + 1) := by
  funext q; unfold exT; by_cases e : q = 1 <;> simp [e]
theorem exK_step (k : Nat) : satS (exK k) (if k = 0 then 0 else 1) = exK (k + 1) ∨ 4 ≤ k := by
  by_cases h : 4 ≤ k
  · exact Or.inr h
  · left
    rcases (by omega : k = 0 ∨ k = 1 ∨ k = 2 ∨ k = 3) with rfl | rfl | rfl | rfl <;> decide
end Go.Proofs.Ytechoojcgdjcdaa
