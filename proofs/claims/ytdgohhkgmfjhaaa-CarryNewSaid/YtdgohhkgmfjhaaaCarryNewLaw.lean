/-
  The law on new forests of layer 12: its walk. Conditions: arguments that came in.
-/
import Derived.Test.YtdgohhkgmfjhaaaCarryAlive
set_option linter.unusedVariables false
set_option linter.unusedSimpArgs false
namespace Go.Proofs.Ytdgohhkgmfjhaaa
open Go Go.RowKit

set_option maxHeartbeats 1000000 in
theorem carryNew_law_no (n x : Int) (w : World) (h : n < 0 ∨ 65536 < n) :
    Calls Try.prog 3 #[.int .i64 n, .int .i64 x] w fun e w' => e = .returned (.bool true) ∧ Upd [] w w' := by
  have k := fun W => carryNew_no n W h
  rcases h with h | h
  all_goals
    go_enter Try.func3, Try.ntmps3
    go_wp2_with (first
      | ((go_at_call 9; (with_reducible refine (calive_any _).mono ?_)); rintro e w1 ⟨rfl, hu1⟩)
      | ((go_at_call 10; (with_reducible refine (k _).mono ?_)); rintro e w2 ⟨rfl, rfl⟩))
    go_ret
    exact ⟨rfl, by (repeat (first | assumption | exact Upd.refl _ _ | refine Upd.alloc ?_ _ | refine Upd.drew ?_ | refine Upd.drewN ?_ _ | refine Upd.setCell ?_ (Or.inr (by first | (simp; done) | (simp; omega))) _ | (apply Upd.trans; rotate_left; assumption)))⟩
theorem rowB_nil (n : Nat) (S : CS) : rowB n S [] = true := rfl
theorem rowB_new (n : Nat) (x : Int) : rowB n CS.none [x] = decide (0 ≤ x ∧ x < n) := by
  by_cases h : 0 ≤ x ∧ x < n
  · rw [decide_eq_true h, rowB_iff]
    exact row_one ⟨h.1, h.2, rfl⟩
  · rw [decide_eq_false h]
    cases hb : rowB n CS.none [x] with
    | false => rfl
    | true =>
      have := ((rowB_iff n CS.none [x]).1 hb).1 x (by simp)
      exact absurd ⟨this.1, this.2.1⟩ h

set_option maxHeartbeats 2000000 in
theorem carryNew_law_yes (n : Nat) (x : Int) (w : World) (h : n ≤ 65536) :
    Calls Try.prog 3 #[.int .i64 (n : Int), .int .i64 x] w fun e w' => e = .returned (.bool true) ∧ Upd [] w w' := by
  have kU := fun W bt ba lo (hT : ForestAt W bt ba lo n CS.none) => up_any bt ba lo n CS.none x W hT
  have kD := fun W bt ba lo (hT : ForestAt W bt ba lo n CS.none) => degree_any bt ba lo n CS.none x W hT
  have kK := fun W bt ba lo (hT : ForestAt W bt ba lo n CS.none) => kids_any bt ba lo n CS.none x W hT
  have eU : upO n CS.none x = none := by unfold upO CS.none; split <;> rfl
  have eD : degOf n CS.none x = 0 := by unfold degOf CS.none; split <;> rfl
  have eK : kidsOf n CS.none x = [] := by unfold kidsOf CS.none; split <;> rfl
  rw [eU, show ov none = 0 from rfl, show ob none = false from rfl] at kU
  rw [eD] at kD
  rw [eK] at kK
  have kR0 := fun W bt ba lo (hT : ForestAt W bt ba lo n CS.none) => row_any bt ba lo n 0 CS.none (.slice none 0 0) [] W hT (Or.inl ⟨rfl, rfl, rfl⟩)
  rw [rowB_nil] at kR0
  have kR1 : ∀ W bt ba lo, ForestAt W bt ba lo n CS.none → Calls Try.prog 14 #[.pointer (some ⟨bt, 0, none⟩), .slice (some ⟨W.heap.size, 0, none⟩) 1 1] (W.alloc (.cells #[.int .i64 x] 3)) fun e w' => e = .returned (.bool (rowB n CS.none [x])) ∧ w' = W.alloc (.cells #[.int .i64 x] 3) := fun W bt ba lo hT =>
    row_sl bt ba lo n CS.none _ [x] (W.alloc (.cells #[.int .i64 x] 3)) (hT.upd0 ((Upd.refl _ _).alloc _)) [] (sl_lit W [] x (by simp))
  rw [rowB_new] at kR1
  by_cases h0 : 0 ≤ x
  · by_cases h1 : x < n
    · rw [decide_eq_true ⟨h0, h1⟩] at kR1
      go_enter Try.func3, Try.ntmps3
      go_wp2_with (first
        | ((go_at_call 9; (with_reducible refine (calive_any _).mono ?_)); rintro e w1 ⟨rfl, hu1⟩)
        | ((go_at_call 10; (with_reducible refine (carryNew_yes n _ h).mono ?_)); rintro e w2 ⟨bt, ba, rfl, hT2, hu2, hb1, hb2⟩)
        | (go_at_call 11; (with_reducible refine (kU _ _ _ _ hT2).mono ?_); rintro e w9 ⟨rfl, hw9⟩; rw [hw9]; clear hw9 w9)
        | (go_at_call 12; (with_reducible refine (kD _ _ _ _ hT2).mono ?_); rintro e w9 ⟨rfl, hw9⟩; rw [hw9]; clear hw9 w9)
        | ((go_at_call 13; (with_reducible refine (kK _ _ _ _ hT2).mono ?_)); rintro e w3 ⟨v3, rfl, hL3, hu3⟩; obtain ⟨a3, c3, he3, _⟩ := hL3.open; obtain rfl : v3 = .slice a3 0 c3 := he3; have hT3 := hT2.upd0 hu3)
        | (go_at_call 14; (with_reducible refine (kR1 _ _ _ _ hT3).mono ?_); rintro e w9 ⟨rfl, hw9⟩; rw [hw9]; clear hw9 w9)
        | (go_at_call 14; (with_reducible refine (kR0 _ _ _ _ (hT3.upd0 ((Upd.refl _ _).alloc _))).mono ?_); rintro e w9 ⟨rfl, hw9⟩; rw [hw9]; clear hw9 w9))
      go_ret
      exact ⟨by first | rfl | exact ret_bool (by simp; omega), by (repeat (first | assumption | exact Upd.refl _ _ | refine Upd.alloc ?_ _ | refine Upd.drew ?_ | refine Upd.drewN ?_ _ | refine Upd.setCell ?_ (Or.inr (by first | (simp; done) | (simp; omega))) _ | (apply Upd.trans; rotate_left; assumption)))⟩
    · rw [decide_eq_false (by omega)] at kR1
      go_enter Try.func3, Try.ntmps3
      go_wp2_with (first
        | ((go_at_call 9; (with_reducible refine (calive_any _).mono ?_)); rintro e w1 ⟨rfl, hu1⟩)
        | ((go_at_call 10; (with_reducible refine (carryNew_yes n _ h).mono ?_)); rintro e w2 ⟨bt, ba, rfl, hT2, hu2, hb1, hb2⟩)
        | (go_at_call 11; (with_reducible refine (kU _ _ _ _ hT2).mono ?_); rintro e w9 ⟨rfl, hw9⟩; rw [hw9]; clear hw9 w9)
        | (go_at_call 12; (with_reducible refine (kD _ _ _ _ hT2).mono ?_); rintro e w9 ⟨rfl, hw9⟩; rw [hw9]; clear hw9 w9)
        | ((go_at_call 13; (with_reducible refine (kK _ _ _ _ hT2).mono ?_)); rintro e w3 ⟨v3, rfl, hL3, hu3⟩; obtain ⟨a3, c3, he3, _⟩ := hL3.open; obtain rfl : v3 = .slice a3 0 c3 := he3; have hT3 := hT2.upd0 hu3)
        | (go_at_call 14; (with_reducible refine (kR1 _ _ _ _ hT3).mono ?_); rintro e w9 ⟨rfl, hw9⟩; rw [hw9]; clear hw9 w9)
        | (go_at_call 14; (with_reducible refine (kR0 _ _ _ _ (hT3.upd0 ((Upd.refl _ _).alloc _))).mono ?_); rintro e w9 ⟨rfl, hw9⟩; rw [hw9]; clear hw9 w9))
      go_ret
      exact ⟨by first | rfl | exact ret_bool (by simp; omega), by (repeat (first | assumption | exact Upd.refl _ _ | refine Upd.alloc ?_ _ | refine Upd.drew ?_ | refine Upd.drewN ?_ _ | refine Upd.setCell ?_ (Or.inr (by first | (simp; done) | (simp; omega))) _ | (apply Upd.trans; rotate_left; assumption)))⟩
  · rw [decide_eq_false (by omega)] at kR1
    go_enter Try.func3, Try.ntmps3
    go_wp2_with (first
      | ((go_at_call 9; (with_reducible refine (calive_any _).mono ?_)); rintro e w1 ⟨rfl, hu1⟩)
      | ((go_at_call 10; (with_reducible refine (carryNew_yes n _ h).mono ?_)); rintro e w2 ⟨bt, ba, rfl, hT2, hu2, hb1, hb2⟩)
      | (go_at_call 11; (with_reducible refine (kU _ _ _ _ hT2).mono ?_); rintro e w9 ⟨rfl, hw9⟩; rw [hw9]; clear hw9 w9)
      | (go_at_call 12; (with_reducible refine (kD _ _ _ _ hT2).mono ?_); rintro e w9 ⟨rfl, hw9⟩; rw [hw9]; clear hw9 w9)
      | ((go_at_call 13; (with_reducible refine (kK _ _ _ _ hT2).mono ?_)); rintro e w3 ⟨v3, rfl, hL3, hu3⟩; obtain ⟨a3, c3, he3, _⟩ := hL3.open; obtain rfl : v3 = .slice a3 0 c3 := he3; have hT3 := hT2.upd0 hu3)
      | (go_at_call 14; (with_reducible refine (kR1 _ _ _ _ hT3).mono ?_); rintro e w9 ⟨rfl, hw9⟩; rw [hw9]; clear hw9 w9)
      | (go_at_call 14; (with_reducible refine (kR0 _ _ _ _ (hT3.upd0 ((Upd.refl _ _).alloc _))).mono ?_); rintro e w9 ⟨rfl, hw9⟩; rw [hw9]; clear hw9 w9))
    go_ret
    exact ⟨by first | rfl | exact ret_bool (by simp; omega), by (repeat (first | assumption | exact Upd.refl _ _ | refine Upd.alloc ?_ _ | refine Upd.drew ?_ | refine Upd.drewN ?_ _ | refine Upd.setCell ?_ (Or.inr (by first | (simp; done) | (simp; omega))) _ | (apply Upd.trans; rotate_left; assumption)))⟩
theorem carryNew_law (n x : Int) (w : World) :
    Calls Try.prog 3 #[.int .i64 n, .int .i64 x] w fun e w' => e = .returned (.bool true) ∧ Upd [] w w' := by
  by_cases h : 0 ≤ n ∧ n ≤ 65536
  · obtain ⟨m, rfl⟩ := Int.eq_ofNat_of_zero_le h.1
    exact carryNew_law_yes m x w (by omega)
  · exact carryNew_law_no n x w (by omega)
end Go.Proofs.Ytdgohhkgmfjhaaa
