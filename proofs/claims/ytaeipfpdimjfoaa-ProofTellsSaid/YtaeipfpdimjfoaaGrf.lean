/-
  Can a graph be, and can ways in it be weighed: package graph and the document. Conditions: those of each lemma.
-/
import Derived.Test.YtaeipfpdimjfoaaIdx
set_option linter.unusedVariables false
set_option linter.unusedSimpArgs false
namespace Go.Proofs.Ytaeipfpdimjfoaa
open Go Go.RowKit

theorem any_not_all (E : List Ed) (P : Ed → Bool) : E.any (fun e => !(P e)) = !(E.all P) := by
  induction E with
  | nil => rfl
  | cons e l ih => rw [List.any_cons, List.all_cons, ih]; cases P e <;> simp
set_option maxHeartbeats 2000000 in
theorem gcheck_any (w : World) (N : Int) (va : Value) (E : List Ed) (hE : SlE w va E) :
    Calls Try.prog 19 #[.agg #[.int .i64 N, va]] w fun r w' => r = .returned (.int .i64 (if rightB N E then 0 else 201)) ∧ Upd [] w w' := by
  obtain ⟨a, cap, rfl, hcap⟩ := hE.shape
  have HE := Lib.hid hE
  have hl : E.length ≤ 9223372036854775807 := by obtain ⟨_, _, _, _, h, _⟩ := hE; exact h
  clear hE
  have key : rightB N E = (decide (0 ≤ N) && decide (N ≤ 4096) && decide (E.length ≤ 65536) && E.all (endsB N)) := rfl
  by_cases h0 : N < 0
  · have hr : rightB N E = false := by rw [key, decide_eq_false (by omega)]; rfl
    rw [hr]
    clear key hr
    go_enter Try.func19, Try.ntmps19
    go_wp2
    go_ret
    exact ⟨rfl, by (repeat (first | assumption | exact Upd.refl _ _ | refine Upd.alloc ?_ _ | refine Upd.drew ?_ | refine Upd.drewN ?_ _ | refine Upd.setCell ?_ (Or.inr (by first | (simp; done) | (simp; omega))) _ | (apply Upd.trans; rotate_left; assumption)))⟩
  · by_cases h1 : N > 4096
    · have hr : rightB N E = false := by rw [key, decide_eq_false (by omega : ¬ N ≤ 4096)]; simp
      rw [hr]
      clear key hr
      go_enter Try.func19, Try.ntmps19
      go_wp2
      go_ret
      exact ⟨rfl, by (repeat (first | assumption | exact Upd.refl _ _ | refine Upd.alloc ?_ _ | refine Upd.drew ?_ | refine Upd.drewN ?_ _ | refine Upd.setCell ?_ (Or.inr (by first | (simp; done) | (simp; omega))) _ | (apply Upd.trans; rotate_left; assumption)))⟩
    · by_cases h2 : (E.length : Int) > 65536
      · have hr : rightB N E = false := by rw [key, decide_eq_false (by omega : ¬ E.length ≤ 65536)]; simp
        rw [hr]
        clear key hr
        generalize E.length = n at *
        go_enter Try.func19, Try.ntmps19
        go_wp2
        go_ret
        exact ⟨rfl, by (repeat (first | assumption | exact Upd.refl _ _ | refine Upd.alloc ?_ _ | refine Upd.drew ?_ | refine Upd.drewN ?_ _ | refine Upd.setCell ?_ (Or.inr (by first | (simp; done) | (simp; omega))) _ | (apply Upd.trans; rotate_left; assumption)))⟩
      · have hr : rightB N E = E.all (endsB N) := by rw [key, decide_eq_true (by omega : 0 ≤ N), decide_eq_true (by omega : N ≤ 4096), decide_eq_true (by omega : E.length ≤ 65536)]; simp
        have u0 : Upd [] w (w.alloc (.cells #[.int .i64 N, .slice a E.length cap] 24)) := (Upd.refl _ _).alloc _
        have kc := fun W (hW : Upd [] (w.alloc (.cells #[.int .i64 N, .slice a E.length cap] 24)) W) => conE_any W (.slice a E.length cap) E (fun e => !(endsB N e)) 26 #[.pointer (some ⟨w.heap.size, 0, none⟩)] (HE.out.upd (u0.trans hW)) (fun _ _ => by kernel_rfl)
          (fun W2 e hW2 _ => check1_any e w.heap.size N a E.length cap W2 ⟨(hW.trans hW2).was (by simp), (hW.trans hW2).was (by simp)⟩)
        rw [any_not_all] at kc
        rw [hr]
        clear key hr
        cases hall : E.all (endsB N) with
        | false =>
          rw [hall] at kc
          clear hall
          generalize E.length = n at *
          go_enter Try.func19, Try.ntmps19
          go_wp2_with (first
            | ((go_at_call 22; (with_reducible refine (kc _ (Upd.refl _ _)).mono ?_)); rintro e w1 ⟨rfl, hu1⟩)
            | fail)
          go_ret
          exact ⟨rfl, u0.trans hu1⟩
        | true =>
          rw [hall] at kc
          clear hall
          generalize E.length = n at *
          go_enter Try.func19, Try.ntmps19
          go_wp2_with (first
            | ((go_at_call 22; (with_reducible refine (kc _ (Upd.refl _ _)).mono ?_)); rintro e w1 ⟨rfl, hu1⟩)
            | fail)
          go_ret
          exact ⟨rfl, u0.trans hu1⟩
end Go.Proofs.Ytaeipfpdimjfoaa
