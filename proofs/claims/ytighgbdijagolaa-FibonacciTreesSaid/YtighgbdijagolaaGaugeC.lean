/-
  What the functions of package gauge, and of the document's answer to it, compute: of every config and size. Conditions: sizes are numbers of 64 bits.
-/
import Derived.Test.YtighgbdijagolaaProg
import Derived.Test.YtighgbdijagolaaShelf
import Derived.Test.YtighgbdijagolaaGa
set_option linter.unusedVariables false
set_option linter.unusedSimpArgs false
namespace Go.Proofs.Ytighgbdijagolaa
open Go.RowKit

def chk (k d : Int) : Int :=
  if k < 1 ∨ 8 < k then 21 else if (k = 2 ∧ (d < 2 ∨ 16 < d)) ∨ (k ≠ 2 ∧ d ≠ 0) then 22 else 0
def arity (k d : Int) : Int := if chk k d = 0 then (if k = 1 then 2 else d) else 0
def near (n : Int) : Int := if n < 0 then 0 else if 1099511627776 < n then 1099511627776 else n
def bitsOf (n : Int) : Int := (Lib.bitLen n.toNat : Int)
def limit (k d m : Int) : Int := if chk k d = 0 then (if k ≤ 2 then arity k d * (2 + bitsOf (near m)) else if k = 3 ∨ k = 6 ∨ k = 8 then 4 * (2 + bitsOf (near m)) else 0) else 0
def whole (k d m : Int) : Int := if chk k d = 0 ∧ (k = 4 ∨ k = 5 ∨ k = 7) then 16 * near m * (2 + bitsOf (near m)) else 0

theorem chk_21 {k d : Int} (h : k < 1 ∨ 8 < k) : chk k d = 21 := by unfold chk; rw [if_pos h]
theorem chk_22 {k d : Int} (h : ¬ (k < 1 ∨ 8 < k)) (h2 : (k = 2 ∧ (d < 2 ∨ 16 < d)) ∨ (k ≠ 2 ∧ d ≠ 0)) : chk k d = 22 := by unfold chk; rw [if_neg h, if_pos h2]
theorem chk_0 {k d : Int} (h : ¬ (k < 1 ∨ 8 < k)) (h2 : ¬ ((k = 2 ∧ (d < 2 ∨ 16 < d)) ∨ (k ≠ 2 ∧ d ≠ 0))) : chk k d = 0 := by unfold chk; rw [if_neg h, if_neg h2]
theorem chk_ok {k d : Int} (h : chk k d = 0) : 1 ≤ k ∧ k ≤ 8 ∧ (k = 2 → 2 ≤ d ∧ d ≤ 16) ∧ (k ≠ 2 → d = 0) := by
  unfold chk at h; split at h
  · omega
  · split at h
    · omega
    · omega
theorem arity_no {k d : Int} (h : ¬ chk k d = 0) : arity k d = 0 := by unfold arity; rw [if_neg h]
theorem arity_1 {k d : Int} (h : chk k d = 0) (h1 : k = 1) : arity k d = 2 := by unfold arity; rw [if_pos h, if_pos h1]
theorem arity_d {k d : Int} (h : chk k d = 0) (h1 : ¬ k = 1) : arity k d = d := by unfold arity; rw [if_pos h, if_neg h1]
theorem arity_bd (k d : Int) : 0 ≤ arity k d ∧ arity k d ≤ 16 := by
  unfold arity
  split
  · rename_i h; have := chk_ok h; split <;> omega
  · omega
theorem near_bd (n : Int) : 0 ≤ near n ∧ near n ≤ 1099511627776 := by unfold near; split; omega; split <;> omega
theorem bitLenAux_fuel_le : ∀ (f x : Nat), Lib.bitLenAux f x ≤ f
  | 0, x => by simp [Lib.bitLenAux]
  | f + 1, x => by
    have := bitLenAux_fuel_le f (x / 2)
    simp only [Lib.bitLenAux]; split <;> omega
theorem bitsOf_bd (n : Int) : 0 ≤ bitsOf n ∧ bitsOf n ≤ 64 := by
  unfold bitsOf; exact ⟨by omega, by have := bitLenAux_fuel_le 64 n.toNat; unfold Lib.bitLen; omega⟩
theorem bitsOf_le {n : Int} (h : n ≤ 0) : bitsOf n = 0 := by
  unfold bitsOf; rw [show n.toNat = 0 by omega]; rfl
theorem bitsOf_half {n : Int} (h : 0 < n) (h2 : n ≤ 9223372036854775807) : bitsOf n = 1 + bitsOf (n / 2) := by
  unfold bitsOf; rw [Lib.bitLen_half n.toNat (by omega) (by omega), show (n / 2).toNat = n.toNat / 2 by omega]; omega
theorem limit_no {k d m : Int} (h : ¬ chk k d = 0) : limit k d m = 0 := by unfold limit; rw [if_neg h]
theorem limit_a {k d m : Int} (h : chk k d = 0) (h1 : k ≤ 2) : limit k d m = arity k d * (2 + bitsOf (near m)) := by unfold limit; rw [if_pos h, if_pos h1]
theorem limit_e {k d m : Int} (h : chk k d = 0) (h1 : ¬ k ≤ 2) (h2 : k = 3 ∨ k = 6 ∨ k = 8) : limit k d m = 4 * (2 + bitsOf (near m)) := by unfold limit; rw [if_pos h, if_neg h1, if_pos h2]
theorem limit_z {k d m : Int} (h : chk k d = 0) (h1 : ¬ k ≤ 2) (h2 : ¬ (k = 3 ∨ k = 6 ∨ k = 8)) : limit k d m = 0 := by unfold limit; rw [if_pos h, if_neg h1, if_neg h2]
theorem whole_y {k d m : Int} (h : chk k d = 0) (h1 : k = 4 ∨ k = 5 ∨ k = 7) : whole k d m = 16 * near m * (2 + bitsOf (near m)) := by unfold whole; rw [if_pos ⟨h, h1⟩]
theorem whole_no {k d m : Int} (h : ¬ (chk k d = 0 ∧ (k = 4 ∨ k = 5 ∨ k = 7))) : whole k d m = 0 := by unfold whole; rw [if_neg h]

set_option maxHeartbeats 400000 in
theorem check_any (k d : Int) (w : World) :
    Calls Try.prog 101 #[.agg #[.int .i64 k, .int .i64 d]] w fun e w' => e = .returned (.int .i64 (chk k d)) ∧ Upd [] w w' := by
  go_enter Try.func101, Try.ntmps101
  go_wp2
  all_goals
    go_ret
    refine ⟨ret_int ?_, (Upd.refl _ _).alloc _⟩
    try simp only [bne_iff_ne, ne_eq, bne_eq_false_iff_eq] at *
    first
    | (rw [chk_21 (by omega)]; done)
    | (rw [chk_22 (by omega) (by omega)]; done)
    | (rw [chk_0 (by omega) (by omega)]; done)

set_option maxHeartbeats 400000 in
theorem rcheck_any (k d : Int) (w : World) :
    Calls Try.prog 97 #[.agg #[.int .i64 k, .int .i64 d]] w fun e w' => e = .returned (.int .i64 (chk k d)) ∧ Upd [] w w' := by
  go_enter Try.func97, Try.ntmps97
  go_wp2
  all_goals
    go_ret
    refine ⟨ret_int ?_, (Upd.refl _ _).alloc _⟩
    try simp only [bne_iff_ne, ne_eq, bne_eq_false_iff_eq, beq_iff_eq, beq_eq_false_iff_ne] at *
    first
    | (rw [chk_21 (by omega)]; done)
    | (rw [chk_22 (by omega) (by omega)]; done)
    | (rw [chk_0 (by omega) (by omega)]; done)

set_option maxHeartbeats 400000 in
theorem arity_any (k d : Int) (w : World) :
    Calls Try.prog 102 #[.agg #[.int .i64 k, .int .i64 d]] w fun e w' => e = .returned (.int .i64 (arity k d)) ∧ Upd [] w w' := by
  go_enter Try.func102, Try.ntmps102
  go_wp2_with (go_at_call 101; refine (check_any _ _ _).mono ?_; rintro e w' ⟨rfl, hb⟩; obtain ⟨hc, hf⟩ := bcell hb)
  all_goals
    go_ret
    refine ⟨ret_int ?_, ((Upd.refl _ _).alloc _).trans (hb.mono (by simp))⟩
    try simp only [bne_iff_ne, ne_eq, bne_eq_false_iff_eq, beq_iff_eq, beq_eq_false_iff_ne] at *
    first
    | (rw [arity_no (by omega)]; done)
    | (rw [arity_1 (by omega) (by omega)]; done)
    | (rw [arity_d (by omega) (by omega)]; done)

set_option maxHeartbeats 400000 in
theorem rarity_any (k d : Int) (w : World) :
    Calls Try.prog 98 #[.agg #[.int .i64 k, .int .i64 d]] w fun e w' => e = .returned (.int .i64 (arity k d)) ∧ Upd [] w w' := by
  by_cases h0 : chk k d = 0
  · by_cases h1 : k = 1
    · obtain rfl : d = 0 := by have := chk_ok h0; omega
      subst h1
      go_enter Try.func98, Try.ntmps98
      go_wp2_with (go_at_call 97; refine (rcheck_any _ _ _).mono ?_; rintro e w' ⟨rfl, hb⟩; obtain ⟨hc, hf⟩ := bcell hb)
      all_goals
        go_ret
        exact ⟨ret_int (arity_1 h0 rfl).symm, by (repeat (first | assumption | exact Upd.refl _ _ | refine Upd.alloc ?_ _ | refine Upd.drew ?_ | refine Upd.drewN ?_ _ | refine Upd.setCell ?_ (Or.inr (by first | (simp; done) | (simp; omega))) _ | (apply Upd.trans; rotate_left; assumption)))⟩
    · by_cases h2 : k = 2
      · subst h2
        go_enter Try.func98, Try.ntmps98
        go_wp2_with (go_at_call 97; refine (rcheck_any _ _ _).mono ?_; rintro e w' ⟨rfl, hb⟩; obtain ⟨hc, hf⟩ := bcell hb)
        all_goals
          go_ret
          exact ⟨ret_int (arity_d h0 h1).symm, by (repeat (first | assumption | exact Upd.refl _ _ | refine Upd.alloc ?_ _ | refine Upd.drew ?_ | refine Upd.drewN ?_ _ | refine Upd.setCell ?_ (Or.inr (by first | (simp; done) | (simp; omega))) _ | (apply Upd.trans; rotate_left; assumption)))⟩
      · obtain rfl : d = 0 := by have := chk_ok h0; omega
        go_enter Try.func98, Try.ntmps98
        go_wp2_with (go_at_call 97; refine (rcheck_any _ _ _).mono ?_; rintro e w' ⟨rfl, hb⟩; obtain ⟨hc, hf⟩ := bcell hb)
        all_goals
          go_ret
          exact ⟨ret_int (arity_d h0 h1).symm, by (repeat (first | assumption | exact Upd.refl _ _ | refine Upd.alloc ?_ _ | refine Upd.drew ?_ | refine Upd.drewN ?_ _ | refine Upd.setCell ?_ (Or.inr (by first | (simp; done) | (simp; omega))) _ | (apply Upd.trans; rotate_left; assumption)))⟩
  · go_enter Try.func98, Try.ntmps98
    go_wp2_with (go_at_call 97; refine (rcheck_any _ _ _).mono ?_; rintro e w' ⟨rfl, hb⟩; obtain ⟨hc, hf⟩ := bcell hb)
    all_goals
      go_ret
      exact ⟨ret_int (arity_no h0).symm, by (repeat (first | assumption | exact Upd.refl _ _ | refine Upd.alloc ?_ _ | refine Upd.drew ?_ | refine Upd.drewN ?_ _ | refine Upd.setCell ?_ (Or.inr (by first | (simp; done) | (simp; omega))) _ | (apply Upd.trans; rotate_left; assumption)))⟩

theorem near_any (n : Int) (w : World) :
    Calls Try.prog 100 #[.int .i64 n] w fun e w' => e = .returned (.int .i64 (near n)) ∧ w' = w := by
  go_enter Try.func100, Try.ntmps100
  go_wp2
  go_ret
  exact ⟨ret_int (by unfold near; split; omega; split <;> omega), rfl⟩

theorem rnear_any (n : Int) (w : World) :
    Calls Try.prog 96 #[.int .i64 n] w fun e w' => e = .returned (.int .i64 (near n)) ∧ w' = w := by
  go_enter Try.func96, Try.ntmps96
  go_wp2
  all_goals
    go_ret
    exact ⟨ret_int (by unfold near; first | (rw [if_pos (by omega)]; done) | (rw [if_neg (by omega), if_pos (by omega)]; done) | (rw [if_neg (by omega), if_neg (by omega)]; done)), rfl⟩

theorem bits_any (n : Int) (w : World) (h1 : -9223372036854775808 ≤ n) (h2 : n ≤ 9223372036854775807) :
    Calls Try.prog 99 #[.int .i64 n] w fun e w' => e = .returned (.int .i64 (bitsOf n)) ∧ w' = w := by
  go_enter Try.func99, Try.ntmps99
  go_wp2_with (go_at_call 112; refine (Try.bits_Len64 _ _ (by omega) (by omega)).mono ?_; rintro e w' ⟨rfl, rfl⟩)
  go_ret
  exact ⟨ret_int (by unfold bitsOf; rw [show (max n 0).toNat = n.toNat by omega]), rfl⟩

set_option maxHeartbeats 400000 in
theorem rbits_any (n : Int) (w : World) (h1 : -9223372036854775808 ≤ n) (h2 : n ≤ 9223372036854775807) :
    Calls Try.prog 38 #[.int .i64 n] w fun e w' => e = .returned (.int .i64 (bitsOf n)) ∧ w' = w := by
  have hb := bitsOf_bd n
  go_enter Try.func38, Try.ntmps38
  go_wp2
  go_loop [0, 3] (fun a c => ∃ m k : Int, m ≤ 9223372036854775807 ∧ 0 ≤ k ∧ k ≤ 64 ∧ k + bitsOf m = bitsOf n ∧ a = .int .i64 m ∧ c = .int .i64 k) (fun a _ => (intOf a).toNat)
  case atStart => exact ⟨n, 0, by omega, by omega, by omega, by omega, rfl, rfl⟩
  case round =>
    obtain ⟨m, k, hm, hk0, hk1, hs, rfl, rfl⟩ := hrel
    by_cases hp : 0 < m
    · have e := bitsOf_half hp hm
      have hb2 := bitsOf_bd (m / 2)
      have HS : Hid (k + 1 + bitsOf (m / 2) = bitsOf n) := by show _ = _; omega
      have hk2 : k + 1 ≤ 64 := by omega
      clear e hs hb hb2
      go_wp2
      go_round
      case rel => exact ⟨m / 2, k + 1, by omega, by omega, by omega, HS.out, rfl, rfl⟩
      case measure => simp [intOf]; omega
    · have e := bitsOf_le (n := m) (by omega)
      have HS : Hid (k = bitsOf n) := by show _ = _; omega
      clear e hs hb
      go_wp2
      go_ret
      exact ⟨ret_int HS.out, rfl⟩

set_option maxHeartbeats 400000 in
theorem limit_any (k d m : Int) (w : World) :
    Calls Try.prog 81 #[.agg #[.int .i64 k, .int .i64 d], .int .i64 m] w fun e w' => e = .returned (.int .i64 (limit k d m)) ∧ Upd [] w w' := by
  have hn := near_bd m
  have hbt := bitsOf_bd (near m)
  have ha := arity_bd k d
  have hmul : arity k d * (2 + bitsOf (near m)) ≤ 16 * 66 := Int.mul_le_mul ha.2 (by omega) (by omega) (by omega)
  have hmul0 : 0 ≤ arity k d * (2 + bitsOf (near m)) := Int.mul_nonneg ha.1 (by omega)
  go_enter Try.func81, Try.ntmps81
  go_wp2_with (first | (go_at_call 101; refine (check_any _ _ _).mono ?_; rintro e w' ⟨rfl, hb⟩; obtain ⟨hc, hf⟩ := bcell hb) | (go_at_call 102; refine (arity_any _ _ _).mono ?_; rintro e w' ⟨rfl, hb⟩; obtain ⟨hc, hf⟩ := bcell hb) | (go_at_call 100; refine (near_any _ _).mono ?_; rintro e w' ⟨rfl, rfl⟩) | (go_at_call 99; refine (bits_any _ _ (by omega) (by omega)).mono ?_; rintro e w' ⟨rfl, rfl⟩))
  all_goals
    go_ret
    refine ⟨ret_int ?_, by (repeat (first | assumption | exact Upd.refl _ _ | refine Upd.alloc ?_ _ | refine Upd.drew ?_ | refine Upd.drewN ?_ _ | refine Upd.setCell ?_ (Or.inr (by first | (simp; done) | (simp; omega))) _ | (apply Upd.trans; rotate_left; assumption)))⟩
    (try simp only [bne_iff_ne, ne_eq, bne_eq_false_iff_eq, beq_iff_eq, beq_eq_false_iff_ne] at *)
    first
    | (rw [limit_no (by assumption)]; done)
    | (rw [limit_a (by assumption) (by omega)]; done)
    | (rw [limit_e (by assumption) (by omega) (by omega)]; done)
    | (rw [limit_z (by assumption) (by have := chk_ok (k := k) (d := d) (by assumption); omega) (by omega)]; done)

set_option maxHeartbeats 400000 in
theorem rlimit_any (k d m : Int) (w : World) :
    Calls Try.prog 80 #[.agg #[.int .i64 k, .int .i64 d], .int .i64 m] w fun e w' => e = .returned (.int .i64 (limit k d m)) ∧ Upd [] w w' := by
  have hn := near_bd m
  have hbt := bitsOf_bd (near m)
  have ha := arity_bd k d
  have hmul : arity k d * (2 + bitsOf (near m)) ≤ 16 * 66 := Int.mul_le_mul ha.2 (by omega) (by omega) (by omega)
  have hmul0 : 0 ≤ arity k d * (2 + bitsOf (near m)) := Int.mul_nonneg ha.1 (by omega)
  go_enter Try.func80, Try.ntmps80
  go_wp2_with (first | (go_at_call 97; refine (rcheck_any _ _ _).mono ?_; rintro e w' ⟨rfl, hb⟩; obtain ⟨hc, hf⟩ := bcell hb) | (go_at_call 98; refine (rarity_any _ _ _).mono ?_; rintro e w' ⟨rfl, hb⟩; obtain ⟨hc, hf⟩ := bcell hb) | (go_at_call 96; refine (rnear_any _ _).mono ?_; rintro e w' ⟨rfl, rfl⟩) | (go_at_call 38; refine (rbits_any _ _ (by omega) (by omega)).mono ?_; rintro e w' ⟨rfl, rfl⟩))
  all_goals
    go_ret
    refine ⟨ret_int ?_, by (repeat (first | assumption | exact Upd.refl _ _ | refine Upd.alloc ?_ _ | refine Upd.drew ?_ | refine Upd.drewN ?_ _ | refine Upd.setCell ?_ (Or.inr (by first | (simp; done) | (simp; omega))) _ | (apply Upd.trans; rotate_left; assumption)))⟩
    (try simp only [bne_iff_ne, ne_eq, bne_eq_false_iff_eq, beq_iff_eq, beq_eq_false_iff_ne] at *)
    first
    | (rw [limit_no (by assumption)]; done)
    | (rw [limit_a (by assumption) (by omega)]; done)
    | (rw [limit_e (by assumption) (by omega) (by omega)]; done)
    | (rw [limit_z (by assumption) (by have := chk_ok (k := k) (d := d) (by assumption); omega) (by omega)]; done)

set_option maxHeartbeats 400000 in
theorem whole_any (k d m : Int) (w : World) :
    Calls Try.prog 92 #[.agg #[.int .i64 k, .int .i64 d], .int .i64 m] w fun e w' => e = .returned (.int .i64 (whole k d m)) ∧ Upd [] w w' := by
  have hn := near_bd m
  have hbt := bitsOf_bd (near m)
  have hmul : 16 * near m * (2 + bitsOf (near m)) ≤ 16 * 1099511627776 * 66 := Int.mul_le_mul (by omega) (by omega) (by omega) (by omega)
  have hmul0 : 0 ≤ 16 * near m * (2 + bitsOf (near m)) := Int.mul_nonneg (by omega) (by omega)
  go_enter Try.func92, Try.ntmps92
  go_wp2_with (first | (go_at_call 101; refine (check_any _ _ _).mono ?_; rintro e w' ⟨rfl, hb⟩; obtain ⟨hc, hf⟩ := bcell hb) | (go_at_call 100; refine (near_any _ _).mono ?_; rintro e w' ⟨rfl, rfl⟩) | (go_at_call 99; refine (bits_any _ _ (by omega) (by omega)).mono ?_; rintro e w' ⟨rfl, rfl⟩))
  all_goals
    go_ret
    refine ⟨ret_int ?_, by (repeat (first | assumption | exact Upd.refl _ _ | refine Upd.alloc ?_ _ | refine Upd.drew ?_ | refine Upd.drewN ?_ _ | refine Upd.setCell ?_ (Or.inr (by first | (simp; done) | (simp; omega))) _ | (apply Upd.trans; rotate_left; assumption)))⟩
    (try simp only [bne_iff_ne, ne_eq, bne_eq_false_iff_eq, beq_iff_eq, beq_eq_false_iff_ne] at *)
    first
    | (rw [whole_y (by assumption) (by omega)]; done)
    | (rw [whole_no (by omega)]; done)

set_option maxHeartbeats 400000 in
theorem rwhole_any (k d m : Int) (w : World) :
    Calls Try.prog 91 #[.agg #[.int .i64 k, .int .i64 d], .int .i64 m] w fun e w' => e = .returned (.int .i64 (whole k d m)) ∧ Upd [] w w' := by
  have hn := near_bd m
  have hbt := bitsOf_bd (near m)
  have hmul : 16 * near m * (2 + bitsOf (near m)) ≤ 16 * 1099511627776 * 66 := Int.mul_le_mul (by omega) (by omega) (by omega) (by omega)
  have hmul0 : 0 ≤ 16 * near m * (2 + bitsOf (near m)) := Int.mul_nonneg (by omega) (by omega)
  go_enter Try.func91, Try.ntmps91
  go_wp2_with (first | (go_at_call 97; refine (rcheck_any _ _ _).mono ?_; rintro e w' ⟨rfl, hb⟩; obtain ⟨hc, hf⟩ := bcell hb) | (go_at_call 96; refine (rnear_any _ _).mono ?_; rintro e w' ⟨rfl, rfl⟩) | (go_at_call 38; refine (rbits_any _ _ (by omega) (by omega)).mono ?_; rintro e w' ⟨rfl, rfl⟩))
  all_goals
    go_ret
    refine ⟨ret_int ?_, by (repeat (first | assumption | exact Upd.refl _ _ | refine Upd.alloc ?_ _ | refine Upd.drew ?_ | refine Upd.drewN ?_ _ | refine Upd.setCell ?_ (Or.inr (by first | (simp; done) | (simp; omega))) _ | (apply Upd.trans; rotate_left; assumption)))⟩
    (try simp only [bne_iff_ne, ne_eq, bne_eq_false_iff_eq, beq_iff_eq, beq_eq_false_iff_ne] at *)
    first
    | (rw [whole_y (by omega) (by omega)]; done)
    | (rw [whole_no (by omega)]; done)

end Go.Proofs.Ytighgbdijagolaa
