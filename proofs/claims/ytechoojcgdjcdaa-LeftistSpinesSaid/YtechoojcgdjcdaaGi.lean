/-
  Leftist heaps: the example of three things, its values told plainly. Conditions: none.
-/
import Derived.Test.YtechoojcgdjcdaaGh
set_option linter.unusedVariables false
set_option linter.unusedSimpArgs false
namespace Go.Proofs.Ytechoojcgdjcdaa
open Go Go.RowKit

def ex0 : NS := makeN (NS.new 3)
def ex1 : NS := putN ex0 1 0 1 0
def ex2 : NS := putN ex1 1 1 2 0
def ex3 : NS := putN ex2 1 2 3 0
theorem ex_put : putB ex0 1 0 = true ∧ putB ex1 1 1 = true ∧ putB ex2 1 2 = true := by decide
theorem ex_lt : ¬ lt3 ex2 1 0 ∧ ¬ lt3 ex3 2 0 := by
  have h : (ex2.c 0).k = 1 ∧ (ex2.c 1).k = 2 ∧ (ex3.c 0).k = 1 ∧ (ex3.c 2).k = 3 := by decide
  unfold lt3; omega
theorem ex_m1 : mergeT settleT ex1 .nil (single 0) = (single 0, 0) := mergeT_nil _ _ _
theorem ex_m2 : mergeT settleT ex2 (single 0) (single 1) = (.node 0 (single 1) .nil, 1) := by
  unfold single
  rw [mergeT_node, if_neg ex_lt.1, mergeT_nil]
  rfl
theorem ex_m3 : mergeT settleT ex3 (.node 0 (single 1) .nil) (single 2) = (.node 0 (single 1) (single 2), 1) := by
  unfold single
  rw [mergeT_node, if_neg ex_lt.2, mergeT_nil]
  rfl
def exA (k : Nat) : NS := match k with | 0 => ex0 | 1 => ex1 | 2 => ex2 | _ => ex3
def exR (k : Nat) : BT := match k with | 0 => .nil | 1 => single 0 | 2 => .node 0 (single 1) .nil | _ => .node 0 (single 1) (single 2)
def exT (k : Nat) (q : Nat) : BT := if q = 1 then exR k else .nil
def exK (k : Nat) : Nat := k - 1
theorem ex_step (k : Nat) (hk : k < 3) : putB (exA k) (1 : Nat) (k : Nat) = true ∧ putN (exA k) (1 : Nat) (k : Nat) ((k : Int) + 1) 0 = exA (k + 1) ∧ mergeT settleT (exA (k + 1)) (exT k 1) (single k) = (exR (k + 1), if k = 0 then 0 else 1) := by
  rcases (by omega : k = 0 ∨ k = 1 ∨ k = 2) with rfl | rfl | rfl
  · exact ⟨ex_put.1, rfl, ex_m1⟩
  · exact ⟨ex_put.2.1, rfl, ex_m2⟩
  · exact ⟨ex_put.2.2, rfl, ex_m3⟩
theorem exT_step (k : Nat) : (fun q => if q = 1 then exR (k + 1) else exT k q) = exT (k + 1) := by
  funext q; unfold exT; by_cases e : q = 1 <;> simp [e]
theorem exK_step (k : Nat) : satS (exK k) (if k = 0 then 0 else 1) = exK (k + 1) ∨ 4 ≤ k := by
  by_cases h : 4 ≤ k
  · exact Or.inr h
  · left
    rcases (by omega : k = 0 ∨ k = 1 ∨ k = 2 ∨ k = 3) with rfl | rfl | rfl | rfl <;> decide
end Go.Proofs.Ytechoojcgdjcdaa

set_option linter.unusedVariables false
set_option linter.unusedSimpArgs false
namespace Go.Proofs.Ytechoojcgdjcdaa
open Go Go.RowKit

theorem exT_zero : exT 0 = fun _ => BT.nil := by funext q; unfold exT exR; simp
set_option maxHeartbeats 4000000 in
theorem lalive_any (w : World) : Calls Try.prog 15 #[] w fun e w' => e = .returned (.bool true) ∧ Upd [] w w' := by
  have kn := lnew_yes 3 w (by omega)
  rw [show (((3 : Nat) : Int)) = 3 from rfl] at kn
  go_enter Try.func15, Try.ntmps15
  go_wp2_with (first
    | ((go_at_call 16; (with_reducible refine (kn).mono ?_)); rintro e w1 ⟨B, F, gt, rfl, hL, hu1, hb1⟩; (have km := lmake_yes hL (by decide)); rw [show (((NS.new 3).hs.length : Nat) : Int) = 1 from rfl] at km)
    | ((go_at_call 39; (with_reducible refine (km).mono ?_)); rintro e w2 ⟨rfl, F2, ⟨F1, gt1, ct1, rfl, hL2⟩, hu2, hF2⟩)
    | fail)
  have hL0 : LfAt w2 B F1 gt1 ct1 (exA 0) (exK 0) (exT 0) := by rw [exT_zero]; exact hL2
  have hn : ∀ x, x ∈ B.blk F1 gt1 → w.heap.size ≤ x := fun x hx => by
    rcases hF2 x hx with h | h
    · exact hb1 x h
    · have := hu1.size; omega
  have hu02 : Upd [] w w2 := hu1.joined hu2 (fun x hx => Or.inr (hb1 x hx))
  have HL := Lib.hid hL0
  have HN := Lib.hid hn
  clear hL hL2 hL0 hn km kn hF2 hu1 hu2
  go_loopw [3] (fun i wr => ∃ k : Nat, k ≤ 3 ∧ i = .int .i64 (k : Int) ∧ LfAt wr B F1 gt1 ct1 (exA k) (exK k) (exT k) ∧ Upd [] w wr) (fun i _ => 3 - (intOf i).toNat)
  case atStart => exact ⟨0, by omega, rfl, HL.out, hu02⟩
  case round =>
    obtain ⟨k, hk, rfl, hLk, hu⟩ := hrel
    by_cases hk3 : k < 3
    · obtain ⟨p1, p2, p3⟩ := ex_step k hk3
      have ki := linsert_yes hLk 1 k ((k : Int) + 1) 0 (by omega) p1
      rw [p2, p3] at ki
      simp only at ki
      rw [exT_step, (exK_step k).resolve_right (by omega)] at ki
      rw [show (((1 : Nat) : Int)) = 1 from rfl] at ki
      clear p1 p2 p3 hLk
      go_wp2_with (first
        | ((go_at_call 40; (with_reducible refine (ki).mono ?_)); rintro e w3 ⟨rfl, hu3, hL3⟩)
        | fail)
      exact ⟨⟨k + 1, by omega, by go_num, hL3, hu.joined hu3 (fun x hx => Or.inr (HN.out x hx))⟩, by simp [intOf]; omega⟩
    · obtain rfl : k = 3 := by omega
      have r0 := lrank_yes hLk 0 1 (by decide)
      rw [show ((rankT (exT 3 1) 0 : Nat) : Int) = 2 by decide, show (((0 : Nat) : Int)) = 0 from rfl] at r0
      go_wp2_with (first
        | ((go_at_call 30; (with_reducible refine (r0).mono ?_)); rintro e w4 ⟨rfl, hL4, hu4⟩; (have r1 := lrank_yes hL4 1 1 (by decide)); rw [show ((rankT (exT 3 1) 1 : Nat) : Int) = 1 by decide, show (((1 : Nat) : Int)) = 1 from rfl] at r1)
        | ((go_at_call 30; (with_reducible refine (r1).mono ?_)); rintro e w5 ⟨rfl, hL5, hu5⟩; (have r2 := lrank_yes hL5 2 1 (by decide)); rw [show ((rankT (exT 3 1) 2 : Nat) : Int) = 1 by decide, show (((2 : Nat) : Int)) = 2 from rfl] at r2)
        | ((go_at_call 30; (with_reducible refine (r2).mono ?_)); rintro e w6 ⟨rfl, hL6, hu6⟩; obtain ⟨S6, rk6, tops6, hM6, -⟩ := hL6; (have h06 := hM6.h0); (have ks := csteps_any hM6.cells); rw [show ((exK 3 : Nat) : Int) = 2 by decide] at ks)
        | (go_at_call 18; (with_reducible refine (ks).mono ?_); rintro e w9 ⟨rfl, hw9⟩; rw [hw9]; clear hw9 w9)
        | fail)
      go_ret
      exact ⟨rfl, ((hu.joined hu4 (fun x hx => Or.inr (HN.out x (by simp [LB.blk, hx])))).joined hu5 (fun x hx => Or.inr (HN.out x (by simp [LB.blk, hx])))).joined hu6 (fun x hx => Or.inr (HN.out x (by simp [LB.blk, hx])))⟩
end Go.Proofs.Ytechoojcgdjcdaa
