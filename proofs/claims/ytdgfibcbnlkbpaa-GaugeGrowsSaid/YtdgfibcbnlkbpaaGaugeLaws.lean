/-
  The laws of layer 2 return true at every input, and write nothing that was there: their walks. Conditions: numbers are of 64 bits.
-/
import Derived.Test.YtdgfibcbnlkbpaaGauge
set_option linter.unusedVariables false
set_option linter.unusedSimpArgs false
namespace Go.Proofs.Ytdgfibcbnlkbpaa
open Go.RowKit

set_option maxHeartbeats 400000 in
theorem gaugeChecks_any (k d : Int) (w : World)  :
    Calls Try.prog 3 #[.agg #[.int .i64 k, .int .i64 d]] w fun e w' => e = .returned (.bool true) ∧ Upd [] w w' := by
  have r0 : ∀ W, Upd [] (w.alloc (.cells #[.int .i64 k, .int .i64 d] 23)) W → W.cell? ⟨w.heap.size, 0, none⟩ = some (.int .i64 k) := fun W h => h.was (by simp [*])
  have r1 : ∀ W, Upd [] (w.alloc (.cells #[.int .i64 k, .int .i64 d] 23)) W → W.cell? ⟨w.heap.size, 1, none⟩ = some (.int .i64 d) := fun W h => h.was (by simp [*])
  go_enter Try.func3, Try.ntmps3
  go_wp2_with (first | (go_at_call 12; refine (galive_any _).mono ?_; rintro e w' ⟨rfl, hb⟩; have hq : Upd [] (w.alloc (.cells #[.int .i64 k, .int .i64 d] 23)) w' := (by first | exact hb | (apply Upd.trans; rotate_left; assumption; assumption))))
  go_region_held3 (fun w' => Upd [] (w.alloc (.cells #[.int .i64 k, .int .i64 d] 23)) w') (first | assumption | (refine Upd.drew ?_; first | assumption | exact Upd.refl _ _) | (apply Upd.trans; rotate_left; assumption; assumption)) (first | (go_at_call 13; refine (check_any _ _ _).mono ?_; rintro e w' ⟨rfl, hb⟩; have hq : Upd [] (w.alloc (.cells #[.int .i64 k, .int .i64 d] 23)) w' := (by first | exact hb | (apply Upd.trans; rotate_left; assumption; assumption))) | (go_at_call 14; refine (rcheck_any _ _ _).mono ?_; rintro e w' ⟨rfl, hb⟩; have hq : Upd [] (w.alloc (.cells #[.int .i64 k, .int .i64 d] 23)) w' := (by first | exact hb | (apply Upd.trans; rotate_left; assumption; assumption))) | (go_at_call 15; refine (arity_any _ _ _).mono ?_; rintro e w' ⟨rfl, hb⟩; have hq : Upd [] (w.alloc (.cells #[.int .i64 k, .int .i64 d] 23)) w' := (by first | exact hb | (apply Upd.trans; rotate_left; assumption; assumption))) | (go_at_call 16; refine (rarity_any _ _ _).mono ?_; rintro e w' ⟨rfl, hb⟩; have hq : Upd [] (w.alloc (.cells #[.int .i64 k, .int .i64 d] 23)) w' := (by first | exact hb | (apply Upd.trans; rotate_left; assumption; assumption))))
  go_wp2
  go_ret
  exact ⟨rfl, by (repeat (first | assumption | exact Upd.refl _ _ | refine Upd.alloc ?_ _ | refine Upd.drew ?_ | (apply Upd.trans; rotate_left; assumption)))⟩

set_option maxHeartbeats 400000 in
theorem gaugeLimits_any (k d a : Int) (w : World) (h1 : -9223372036854775808 ≤ a) (h2 : a ≤ 9223372036854775807) :
    Calls Try.prog 6 #[.agg #[.int .i64 k, .int .i64 d], .int .i64 a] w fun e w' => e = .returned (.bool true) ∧ Upd [] w w' := by
  have r0 : ∀ W, Upd [] (w.alloc (.cells #[.int .i64 k, .int .i64 d] 23)) W → W.cell? ⟨w.heap.size, 0, none⟩ = some (.int .i64 k) := fun W h => h.was (by simp [*])
  have r1 : ∀ W, Upd [] (w.alloc (.cells #[.int .i64 k, .int .i64 d] 23)) W → W.cell? ⟨w.heap.size, 1, none⟩ = some (.int .i64 d) := fun W h => h.was (by simp [*])
  go_enter Try.func6, Try.ntmps6
  go_wp2_with (first | (go_at_call 12; refine (galive_any _).mono ?_; rintro e w' ⟨rfl, hb⟩; have hq : Upd [] (w.alloc (.cells #[.int .i64 k, .int .i64 d] 23)) w' := (by first | exact hb | (apply Upd.trans; rotate_left; assumption; assumption))))
  go_region_held3 (fun w' => Upd [] (w.alloc (.cells #[.int .i64 k, .int .i64 d] 23)) w') (first | assumption | (refine Upd.drew ?_; first | assumption | exact Upd.refl _ _) | (apply Upd.trans; rotate_left; assumption; assumption)) (first | (go_at_call 22; refine (bits_any _ _ (by omega) (by omega)).mono ?_; rintro e w' ⟨rfl, rfl⟩) | (go_at_call 23; refine (rbits_any _ _ (by omega) (by omega)).mono ?_; rintro e w' ⟨rfl, rfl⟩) | (go_at_call 24; refine (limit_any _ _ _ _).mono ?_; rintro e w' ⟨rfl, hb⟩; have hq : Upd [] (w.alloc (.cells #[.int .i64 k, .int .i64 d] 23)) w' := (by first | exact hb | (apply Upd.trans; rotate_left; assumption; assumption))) | (go_at_call 25; refine (rlimit_any _ _ _ _).mono ?_; rintro e w' ⟨rfl, hb⟩; have hq : Upd [] (w.alloc (.cells #[.int .i64 k, .int .i64 d] 23)) w' := (by first | exact hb | (apply Upd.trans; rotate_left; assumption; assumption))) | (go_at_call 26; refine (whole_any _ _ _ _).mono ?_; rintro e w' ⟨rfl, hb⟩; have hq : Upd [] (w.alloc (.cells #[.int .i64 k, .int .i64 d] 23)) w' := (by first | exact hb | (apply Upd.trans; rotate_left; assumption; assumption))) | (go_at_call 27; refine (rwhole_any _ _ _ _).mono ?_; rintro e w' ⟨rfl, hb⟩; have hq : Upd [] (w.alloc (.cells #[.int .i64 k, .int .i64 d] 23)) w' := (by first | exact hb | (apply Upd.trans; rotate_left; assumption; assumption))))
  go_wp2
  go_ret
  exact ⟨rfl, by (repeat (first | assumption | exact Upd.refl _ _ | refine Upd.alloc ?_ _ | refine Upd.drew ?_ | (apply Upd.trans; rotate_left; assumption)))⟩

theorem bitLenAux_mono : ∀ (f x y : Nat), x ≤ y → Lib.bitLenAux f x ≤ Lib.bitLenAux f y
  | 0, x, y, _ => by simp [Lib.bitLenAux]
  | f + 1, x, y, h => by
    have := bitLenAux_mono f (x / 2) (y / 2) (by omega)
    simp only [Lib.bitLenAux]
    split
    · omega
    · rw [if_neg (by omega)]; omega
theorem bitsOf_mono {a b : Int} (h : a ≤ b) : bitsOf a ≤ bitsOf b := by
  have := bitLenAux_mono 64 a.toNat b.toNat (by omega)
  unfold bitsOf Lib.bitLen; omega
theorem near_mono {a b : Int} (h : a ≤ b) : near a ≤ near b := by unfold near; split <;> split <;> (try split) <;> (try split) <;> omega
theorem limit_mono {a b : Int} (k d : Int) (h : a ≤ b) : limit k d a ≤ limit k d b := by
  have hb := bitsOf_mono (near_mono h)
  have ha := arity_bd k d
  unfold limit
  split
  · split
    · exact Int.mul_le_mul_of_nonneg_left (by omega) ha.1
    · split <;> omega
  · omega
theorem whole_mono {a b : Int} (k d : Int) (h : a ≤ b) : whole k d a ≤ whole k d b := by
  have hb := bitsOf_mono (near_mono h)
  have hn := near_mono h
  have h1 := near_bd a
  have h2 := near_bd b
  have h3 := bitsOf_bd (near a)
  unfold whole
  split
  · exact Int.mul_le_mul (by omega) (by omega) (by omega) (by omega)
  · omega
theorem one_bound {k d a : Int} (h : chk k d = 0) : (0 < limit k d a ∧ whole k d 1 = 0) ∨ (limit k d a = 0 ∧ 0 < whole k d 1) := by
  have hk := chk_ok h
  have hb := bitsOf_bd (near a)
  by_cases h2 : k ≤ 2
  · left
    have har : 2 ≤ arity k d := by unfold arity; rw [if_pos h]; split <;> omega
    rw [limit_a h h2, whole_no (by omega)]
    exact ⟨Int.mul_pos (by omega) (by omega), rfl⟩
  · by_cases h3 : k = 3 ∨ k = 6 ∨ k = 8
    · left; rw [limit_e h h2 h3, whole_no (by omega)]; omega
    · right; rw [limit_z h h2 h3, whole_y h (by omega)]; exact ⟨rfl, by decide +kernel⟩

set_option maxHeartbeats 400000 in
theorem grows_1 (k d a b : Int) (w : World) (h1 : -9223372036854775808 ≤ a) (h2 : a ≤ 9223372036854775807) (h3 : -9223372036854775808 ≤ b) (h4 : b ≤ 9223372036854775807) (hd : chk k d = 0) (hab : b < a)
    (m1 : decide (bitsOf b ≤ bitsOf a) = true) (m2 : decide (limit k d b ≤ limit k d a) = true) (m3 : decide (whole k d b ≤ whole k d a) = true) (m4 : decide (0 < limit k d b) = true) (m5 : decide (0 < whole k d 1) = false) :
    Calls Try.prog 7 #[.agg #[.int .i64 k, .int .i64 d], .int .i64 a, .int .i64 b] w fun e w' => e = .returned (.bool true) ∧ Upd [] w w' := by
  have r0 : ∀ W, Upd [] (w.alloc (.cells #[.int .i64 k, .int .i64 d] 23)) W → W.cell? ⟨w.heap.size, 0, none⟩ = some (.int .i64 k) := fun W h => h.was (by simp [*])
  have r1 : ∀ W, Upd [] (w.alloc (.cells #[.int .i64 k, .int .i64 d] 23)) W → W.cell? ⟨w.heap.size, 1, none⟩ = some (.int .i64 d) := fun W h => h.was (by simp [*])
  go_enter Try.func7, Try.ntmps7
  go_wp2_with (first | (go_at_call 12; refine (galive_any _).mono ?_; rintro e w' ⟨rfl, hb⟩; have hq : Upd [] (w.alloc (.cells #[.int .i64 k, .int .i64 d] 23)) w' := (by first | exact hb | (apply Upd.trans; rotate_left; assumption; assumption))) | (go_at_call 13; refine (check_any _ _ _).mono ?_; rintro e w' ⟨rfl, hb⟩; have hq : Upd [] (w.alloc (.cells #[.int .i64 k, .int .i64 d] 23)) w' := (by first | exact hb | (apply Upd.trans; rotate_left; assumption; assumption))))
  go_region_held3 (fun w' => Upd [] (w.alloc (.cells #[.int .i64 k, .int .i64 d] 23)) w') (first | assumption | (refine Upd.drew ?_; first | assumption | exact Upd.refl _ _) | (apply Upd.trans; rotate_left; assumption; assumption)) (first | (go_at_call 22; refine (bits_any _ _ (by omega) (by omega)).mono ?_; rintro e w' ⟨rfl, rfl⟩) | (go_at_call 24; refine (limit_any _ _ _ _).mono ?_; rintro e w' ⟨rfl, hb⟩; have hq : Upd [] (w.alloc (.cells #[.int .i64 k, .int .i64 d] 23)) w' := (by first | exact hb | (apply Upd.trans; rotate_left; assumption; assumption))) | (go_at_call 26; refine (whole_any _ _ _ _).mono ?_; rintro e w' ⟨rfl, hb⟩; have hq : Upd [] (w.alloc (.cells #[.int .i64 k, .int .i64 d] 23)) w' := (by first | exact hb | (apply Upd.trans; rotate_left; assumption; assumption))))
  go_wp2
  go_ret
  exact ⟨rfl, by (repeat (first | assumption | exact Upd.refl _ _ | refine Upd.alloc ?_ _ | refine Upd.drew ?_ | (apply Upd.trans; rotate_left; assumption)))⟩

set_option maxHeartbeats 400000 in
theorem grows_2 (k d a b : Int) (w : World) (h1 : -9223372036854775808 ≤ a) (h2 : a ≤ 9223372036854775807) (h3 : -9223372036854775808 ≤ b) (h4 : b ≤ 9223372036854775807) (hd : chk k d = 0) (hab : b < a)
    (m1 : decide (bitsOf b ≤ bitsOf a) = true) (m2 : decide (limit k d b ≤ limit k d a) = true) (m3 : decide (whole k d b ≤ whole k d a) = true) (m4 : decide (0 < limit k d b) = false) (m5 : decide (0 < whole k d 1) = true) :
    Calls Try.prog 7 #[.agg #[.int .i64 k, .int .i64 d], .int .i64 a, .int .i64 b] w fun e w' => e = .returned (.bool true) ∧ Upd [] w w' := by
  have r0 : ∀ W, Upd [] (w.alloc (.cells #[.int .i64 k, .int .i64 d] 23)) W → W.cell? ⟨w.heap.size, 0, none⟩ = some (.int .i64 k) := fun W h => h.was (by simp [*])
  have r1 : ∀ W, Upd [] (w.alloc (.cells #[.int .i64 k, .int .i64 d] 23)) W → W.cell? ⟨w.heap.size, 1, none⟩ = some (.int .i64 d) := fun W h => h.was (by simp [*])
  go_enter Try.func7, Try.ntmps7
  go_wp2_with (first | (go_at_call 12; refine (galive_any _).mono ?_; rintro e w' ⟨rfl, hb⟩; have hq : Upd [] (w.alloc (.cells #[.int .i64 k, .int .i64 d] 23)) w' := (by first | exact hb | (apply Upd.trans; rotate_left; assumption; assumption))) | (go_at_call 13; refine (check_any _ _ _).mono ?_; rintro e w' ⟨rfl, hb⟩; have hq : Upd [] (w.alloc (.cells #[.int .i64 k, .int .i64 d] 23)) w' := (by first | exact hb | (apply Upd.trans; rotate_left; assumption; assumption))))
  go_region_held3 (fun w' => Upd [] (w.alloc (.cells #[.int .i64 k, .int .i64 d] 23)) w') (first | assumption | (refine Upd.drew ?_; first | assumption | exact Upd.refl _ _) | (apply Upd.trans; rotate_left; assumption; assumption)) (first | (go_at_call 22; refine (bits_any _ _ (by omega) (by omega)).mono ?_; rintro e w' ⟨rfl, rfl⟩) | (go_at_call 24; refine (limit_any _ _ _ _).mono ?_; rintro e w' ⟨rfl, hb⟩; have hq : Upd [] (w.alloc (.cells #[.int .i64 k, .int .i64 d] 23)) w' := (by first | exact hb | (apply Upd.trans; rotate_left; assumption; assumption))) | (go_at_call 26; refine (whole_any _ _ _ _).mono ?_; rintro e w' ⟨rfl, hb⟩; have hq : Upd [] (w.alloc (.cells #[.int .i64 k, .int .i64 d] 23)) w' := (by first | exact hb | (apply Upd.trans; rotate_left; assumption; assumption))))
  go_wp2
  go_ret
  exact ⟨rfl, by (repeat (first | assumption | exact Upd.refl _ _ | refine Upd.alloc ?_ _ | refine Upd.drew ?_ | (apply Upd.trans; rotate_left; assumption)))⟩

set_option maxHeartbeats 400000 in
theorem grows_3 (k d a b : Int) (w : World) (h1 : -9223372036854775808 ≤ a) (h2 : a ≤ 9223372036854775807) (h3 : -9223372036854775808 ≤ b) (h4 : b ≤ 9223372036854775807) (hd : chk k d = 0) (hab : a ≤ b)
    (m1 : decide (bitsOf a ≤ bitsOf b) = true) (m2 : decide (limit k d a ≤ limit k d b) = true) (m3 : decide (whole k d a ≤ whole k d b) = true) (m4 : decide (0 < limit k d a) = true) (m5 : decide (0 < whole k d 1) = false) :
    Calls Try.prog 7 #[.agg #[.int .i64 k, .int .i64 d], .int .i64 a, .int .i64 b] w fun e w' => e = .returned (.bool true) ∧ Upd [] w w' := by
  have r0 : ∀ W, Upd [] (w.alloc (.cells #[.int .i64 k, .int .i64 d] 23)) W → W.cell? ⟨w.heap.size, 0, none⟩ = some (.int .i64 k) := fun W h => h.was (by simp [*])
  have r1 : ∀ W, Upd [] (w.alloc (.cells #[.int .i64 k, .int .i64 d] 23)) W → W.cell? ⟨w.heap.size, 1, none⟩ = some (.int .i64 d) := fun W h => h.was (by simp [*])
  go_enter Try.func7, Try.ntmps7
  go_wp2_with (first | (go_at_call 12; refine (galive_any _).mono ?_; rintro e w' ⟨rfl, hb⟩; have hq : Upd [] (w.alloc (.cells #[.int .i64 k, .int .i64 d] 23)) w' := (by first | exact hb | (apply Upd.trans; rotate_left; assumption; assumption))) | (go_at_call 13; refine (check_any _ _ _).mono ?_; rintro e w' ⟨rfl, hb⟩; have hq : Upd [] (w.alloc (.cells #[.int .i64 k, .int .i64 d] 23)) w' := (by first | exact hb | (apply Upd.trans; rotate_left; assumption; assumption))))
  go_region_held3 (fun w' => Upd [] (w.alloc (.cells #[.int .i64 k, .int .i64 d] 23)) w') (first | assumption | (refine Upd.drew ?_; first | assumption | exact Upd.refl _ _) | (apply Upd.trans; rotate_left; assumption; assumption)) (first | (go_at_call 22; refine (bits_any _ _ (by omega) (by omega)).mono ?_; rintro e w' ⟨rfl, rfl⟩) | (go_at_call 24; refine (limit_any _ _ _ _).mono ?_; rintro e w' ⟨rfl, hb⟩; have hq : Upd [] (w.alloc (.cells #[.int .i64 k, .int .i64 d] 23)) w' := (by first | exact hb | (apply Upd.trans; rotate_left; assumption; assumption))) | (go_at_call 26; refine (whole_any _ _ _ _).mono ?_; rintro e w' ⟨rfl, hb⟩; have hq : Upd [] (w.alloc (.cells #[.int .i64 k, .int .i64 d] 23)) w' := (by first | exact hb | (apply Upd.trans; rotate_left; assumption; assumption))))
  go_wp2
  go_ret
  exact ⟨rfl, by (repeat (first | assumption | exact Upd.refl _ _ | refine Upd.alloc ?_ _ | refine Upd.drew ?_ | (apply Upd.trans; rotate_left; assumption)))⟩

set_option maxHeartbeats 400000 in
theorem grows_4 (k d a b : Int) (w : World) (h1 : -9223372036854775808 ≤ a) (h2 : a ≤ 9223372036854775807) (h3 : -9223372036854775808 ≤ b) (h4 : b ≤ 9223372036854775807) (hd : chk k d = 0) (hab : a ≤ b)
    (m1 : decide (bitsOf a ≤ bitsOf b) = true) (m2 : decide (limit k d a ≤ limit k d b) = true) (m3 : decide (whole k d a ≤ whole k d b) = true) (m4 : decide (0 < limit k d a) = false) (m5 : decide (0 < whole k d 1) = true) :
    Calls Try.prog 7 #[.agg #[.int .i64 k, .int .i64 d], .int .i64 a, .int .i64 b] w fun e w' => e = .returned (.bool true) ∧ Upd [] w w' := by
  have r0 : ∀ W, Upd [] (w.alloc (.cells #[.int .i64 k, .int .i64 d] 23)) W → W.cell? ⟨w.heap.size, 0, none⟩ = some (.int .i64 k) := fun W h => h.was (by simp [*])
  have r1 : ∀ W, Upd [] (w.alloc (.cells #[.int .i64 k, .int .i64 d] 23)) W → W.cell? ⟨w.heap.size, 1, none⟩ = some (.int .i64 d) := fun W h => h.was (by simp [*])
  go_enter Try.func7, Try.ntmps7
  go_wp2_with (first | (go_at_call 12; refine (galive_any _).mono ?_; rintro e w' ⟨rfl, hb⟩; have hq : Upd [] (w.alloc (.cells #[.int .i64 k, .int .i64 d] 23)) w' := (by first | exact hb | (apply Upd.trans; rotate_left; assumption; assumption))) | (go_at_call 13; refine (check_any _ _ _).mono ?_; rintro e w' ⟨rfl, hb⟩; have hq : Upd [] (w.alloc (.cells #[.int .i64 k, .int .i64 d] 23)) w' := (by first | exact hb | (apply Upd.trans; rotate_left; assumption; assumption))))
  go_region_held3 (fun w' => Upd [] (w.alloc (.cells #[.int .i64 k, .int .i64 d] 23)) w') (first | assumption | (refine Upd.drew ?_; first | assumption | exact Upd.refl _ _) | (apply Upd.trans; rotate_left; assumption; assumption)) (first | (go_at_call 22; refine (bits_any _ _ (by omega) (by omega)).mono ?_; rintro e w' ⟨rfl, rfl⟩) | (go_at_call 24; refine (limit_any _ _ _ _).mono ?_; rintro e w' ⟨rfl, hb⟩; have hq : Upd [] (w.alloc (.cells #[.int .i64 k, .int .i64 d] 23)) w' := (by first | exact hb | (apply Upd.trans; rotate_left; assumption; assumption))) | (go_at_call 26; refine (whole_any _ _ _ _).mono ?_; rintro e w' ⟨rfl, hb⟩; have hq : Upd [] (w.alloc (.cells #[.int .i64 k, .int .i64 d] 23)) w' := (by first | exact hb | (apply Upd.trans; rotate_left; assumption; assumption))))
  go_wp2
  go_ret
  exact ⟨rfl, by (repeat (first | assumption | exact Upd.refl _ _ | refine Upd.alloc ?_ _ | refine Upd.drew ?_ | (apply Upd.trans; rotate_left; assumption)))⟩

set_option maxHeartbeats 400000 in
theorem grows_5 (k d a b : Int) (w : World) (hd : ¬ chk k d = 0) (e1 : ∀ m, limit k d m = 0) (e2 : ∀ m, whole k d m = 0) :
    Calls Try.prog 7 #[.agg #[.int .i64 k, .int .i64 d], .int .i64 a, .int .i64 b] w fun e w' => e = .returned (.bool true) ∧ Upd [] w w' := by
  have r0 : ∀ W, Upd [] (w.alloc (.cells #[.int .i64 k, .int .i64 d] 23)) W → W.cell? ⟨w.heap.size, 0, none⟩ = some (.int .i64 k) := fun W h => h.was (by simp [*])
  have r1 : ∀ W, Upd [] (w.alloc (.cells #[.int .i64 k, .int .i64 d] 23)) W → W.cell? ⟨w.heap.size, 1, none⟩ = some (.int .i64 d) := fun W h => h.was (by simp [*])
  go_enter Try.func7, Try.ntmps7
  go_wp2_with (first | (go_at_call 12; refine (galive_any _).mono ?_; rintro e w' ⟨rfl, hb⟩; have hq : Upd [] (w.alloc (.cells #[.int .i64 k, .int .i64 d] 23)) w' := (by first | exact hb | (apply Upd.trans; rotate_left; assumption; assumption))) | (go_at_call 13; refine (check_any _ _ _).mono ?_; rintro e w' ⟨rfl, hb⟩; have hq : Upd [] (w.alloc (.cells #[.int .i64 k, .int .i64 d] 23)) w' := (by first | exact hb | (apply Upd.trans; rotate_left; assumption; assumption))) | (go_at_call 24; refine (limit_any _ _ _ _).mono ?_; rintro e w' ⟨rfl, hb⟩; have hq : Upd [] (w.alloc (.cells #[.int .i64 k, .int .i64 d] 23)) w' := (by first | exact hb | (apply Upd.trans; rotate_left; assumption; assumption))) | (go_at_call 26; refine (whole_any _ _ _ _).mono ?_; rintro e w' ⟨rfl, hb⟩; have hq : Upd [] (w.alloc (.cells #[.int .i64 k, .int .i64 d] 23)) w' := (by first | exact hb | (apply Upd.trans; rotate_left; assumption; assumption))))
  all_goals
    go_ret
    exact ⟨rfl, by (repeat (first | assumption | exact Upd.refl _ _ | refine Upd.alloc ?_ _ | refine Upd.drew ?_ | (apply Upd.trans; rotate_left; assumption)))⟩

theorem gaugeGrows_any (k d a b : Int) (w : World) (h1 : -9223372036854775808 ≤ a) (h2 : a ≤ 9223372036854775807) (h3 : -9223372036854775808 ≤ b) (h4 : b ≤ 9223372036854775807) :
    Calls Try.prog 7 #[.agg #[.int .i64 k, .int .i64 d], .int .i64 a, .int .i64 b] w fun e w' => e = .returned (.bool true) ∧ Upd [] w w' := by
  by_cases hd : chk k d = 0
  · by_cases hab : b < a
    · have hle : b ≤ a := by omega
      rcases one_bound (a := b) hd with ⟨m4, m5⟩ | ⟨m4, m5⟩
      · exact grows_1 k d a b w h1 h2 h3 h4 hd hab (decide_eq_true (bitsOf_mono hle)) (decide_eq_true (limit_mono k d hle)) (decide_eq_true (whole_mono k d hle)) (decide_eq_true m4) (decide_eq_false (by omega))
      · exact grows_2 k d a b w h1 h2 h3 h4 hd hab (decide_eq_true (bitsOf_mono hle)) (decide_eq_true (limit_mono k d hle)) (decide_eq_true (whole_mono k d hle)) (decide_eq_false (by omega)) (decide_eq_true m5)
    · have hle : a ≤ b := by omega
      rcases one_bound (a := a) hd with ⟨m4, m5⟩ | ⟨m4, m5⟩
      · exact grows_3 k d a b w h1 h2 h3 h4 hd hle (decide_eq_true (bitsOf_mono hle)) (decide_eq_true (limit_mono k d hle)) (decide_eq_true (whole_mono k d hle)) (decide_eq_true m4) (decide_eq_false (by omega))
      · exact grows_4 k d a b w h1 h2 h3 h4 hd hle (decide_eq_true (bitsOf_mono hle)) (decide_eq_true (limit_mono k d hle)) (decide_eq_true (whole_mono k d hle)) (decide_eq_false (by omega)) (decide_eq_true m5)
  · exact grows_5 k d a b w hd (fun m => limit_no (m := m) hd) (fun m => whole_no (m := m) (by omega))

end Go.Proofs.Ytdgfibcbnlkbpaa
