/-
  The law FibonacciNew: its walk. Conditions: none.
-/
import Derived.Test.YtighgbdijagolaaFbAlive
set_option linter.unusedVariables false
set_option linter.unusedSimpArgs false
namespace Go.Proofs.Ytighgbdijagolaa
open Go Go.RowKit

theorem fnewLaw_no (n : Int) (w : World) (h : n < 0 ∨ 65536 < n) : Calls Try.prog 9 #[.int .i64 n] w fun e w' => e = .returned (.bool true) ∧ Upd [] w w' := by
  have k := fun W => fnew_no n W h
  rcases h with h | h
  all_goals
    go_enter Try.func9, Try.ntmps9
    go_wp2_with (first
      | ((go_at_call 33; (with_reducible refine (falive_any _).mono ?_)); rintro e w1 ⟨rfl, hu1⟩)
      | ((go_at_call 34; (with_reducible refine (k _).mono ?_)); rintro e w2 ⟨rfl, rfl⟩))
    go_ret
    exact ⟨rfl, by (repeat (first | assumption | exact Upd.refl _ _ | refine Upd.alloc ?_ _ | refine Upd.drew ?_ | refine Upd.drewN ?_ _ | refine Upd.setCell ?_ (Or.inr (by first | (simp; done) | (simp; omega))) _ | (apply Upd.trans; rotate_left; assumption)))⟩
set_option maxHeartbeats 4000000 in
theorem fnewLaw_yes (n : Nat) (w : World) (h : n ≤ 65536) : Calls Try.prog 9 #[.int .i64 (n : Int)] w fun e w' => e = .returned (.bool true) ∧ Upd [] w w' := by
  have kn := fun W => fnew_yes n W h
  go_enter Try.func9, Try.ntmps9
  go_wp2_with (first
    | ((go_at_call 33; (with_reducible refine (falive_any _).mono ?_)); rintro e w1 ⟨rfl, hu1⟩)
    | ((go_at_call 34; (with_reducible refine (kn _).mono ?_)); rintro e w2 ⟨p, F, rfl, hK, hu2, -⟩; obtain ⟨c, F1, h0, hC, _⟩ := hK.cl; (have k1 := ccap_any hC); (have k2 := csteps_any hC); (have k3 := chas_any hC 1); (have k4 := clen_any hC 1 (by omega)); rw [show (((NS.new n).cs.length : Nat) : Int) = (n : Int) by simp [NS.new]] at k1; rw [show hasN (NS.new n) 1 = false from rfl] at k3; rw [show lenN (NS.new n) 1 = 0 from lenN_zero (NS.new_ok n h) rfl] at k4)
    | (go_at_call 18; (with_reducible refine (k1).mono ?_); rintro e w9 ⟨rfl, hw9⟩; rw [hw9]; clear hw9 w9)
    | (go_at_call 19; (with_reducible refine (k2).mono ?_); rintro e w9 ⟨rfl, hw9⟩; rw [hw9]; clear hw9 w9)
    | (go_at_call 20; (with_reducible refine (k3).mono ?_); rintro e w9 ⟨rfl, hw9⟩; rw [hw9]; clear hw9 w9)
    | (go_at_call 21; (with_reducible refine (k4).mono ?_); rintro e w9 ⟨rfl, hw9⟩; rw [hw9]; clear hw9 w9))
  go_ret
  exact ⟨by first | rfl | exact ret_bool (by simp), hu1.trans hu2⟩
theorem fnewLaw_any (n : Int) (w : World) : Calls Try.prog 9 #[.int .i64 n] w fun e w' => e = .returned (.bool true) ∧ Upd [] w w' := by
  by_cases h : n < 0 ∨ 65536 < n
  · exact fnewLaw_no n w h
  · obtain ⟨k, rfl⟩ : ∃ k : Nat, n = k := ⟨n.toNat, by omega⟩
    exact fnewLaw_yes k w (by omega)
end Go.Proofs.Ytighgbdijagolaa
