/-
  Entries: which goes ahead (package entry, the document's haycockref01, the library's cmp at the two kinds). Conditions: those of each lemma.
-/
import Derived.Test.YtechoojcgdjcdaaNs
import Derived.Test.YtechoojcgdjcdaaInts
set_option linter.unusedVariables false
set_option linter.unusedSimpArgs false
namespace Go.Proofs.Ytechoojcgdjcdaa
open Go Go.RowKit

def cmpZ (a b : Int) : Int := if a < b then -1 else if b < a then 1 else 0
def cmpE (k1 s1 k2 s2 : Int) : Int := if k1 = k2 then cmpZ s1 s2 else cmpZ k1 k2
theorem cmpE_less (k1 s1 k2 s2 : Int) : decide (cmpE k1 s1 k2 s2 < 0) = lessE k1 s1 k2 s2 := by
  unfold cmpE lessE cmpZ
  split
  · rw [decide_eq_decide]; split; omega; split <;> omega
  · rw [decide_eq_decide]; split; omega; split <;> omega
theorem nanI_any (x : Int) (w : World) : Calls Try.prog 114 #[.int .i64 x] w fun e w' => e = .returned (.bool false) ∧ w' = w := by
  have h : (x != x) = false := by simp
  go_enter Try.func114, Try.ntmps114
  go_wp2
  go_ret
  exact ⟨rfl, rfl⟩
theorem nanU_any (x : Int) (w : World) : Calls Try.prog 115 #[.int .u64 x] w fun e w' => e = .returned (.bool false) ∧ w' = w := by
  have h : (x != x) = false := by simp
  go_enter Try.func115, Try.ntmps115
  go_wp2
  go_ret
  exact ⟨rfl, rfl⟩
theorem cmpI_any (a b : Int) (w : World) : Calls Try.prog 112 #[.int .i64 a, .int .i64 b] w fun e w' => e = .returned (.int .i64 (cmpZ a b)) ∧ w' = w := by
  have k := fun x => nanI_any x w
  unfold cmpZ
  by_cases h1 : a < b
  · go_enter Try.func112, Try.ntmps112
    go_wp2_with ((go_at_call 114; (with_reducible refine ((k _)).mono ?_); rintro e w9 ⟨rfl, hw9⟩; rw [hw9]; clear hw9 w9))
    go_ret
    exact ⟨by first | rfl | (refine ret_int ?_; simp; try omega), rfl⟩
  · by_cases h2 : b < a
    · go_enter Try.func112, Try.ntmps112
      go_wp2_with ((go_at_call 114; (with_reducible refine ((k _)).mono ?_); rintro e w9 ⟨rfl, hw9⟩; rw [hw9]; clear hw9 w9))
      go_ret
      exact ⟨by first | rfl | (refine ret_int ?_; simp; try omega), rfl⟩
    · have e : a = b := by omega
      subst e
      clear h1 h2
      go_enter Try.func112, Try.ntmps112
      go_wp2_with ((go_at_call 114; (with_reducible refine ((k _)).mono ?_); rintro e w9 ⟨rfl, hw9⟩; rw [hw9]; clear hw9 w9))
      go_ret
      exact ⟨by first | rfl | (refine ret_int ?_; simp; try omega), rfl⟩
theorem cmpU_any (a b : Int) (w : World) : Calls Try.prog 113 #[.int .u64 a, .int .u64 b] w fun e w' => e = .returned (.int .i64 (cmpZ a b)) ∧ w' = w := by
  have k := fun x => nanU_any x w
  unfold cmpZ
  by_cases h1 : a < b
  · go_enter Try.func113, Try.ntmps113
    go_wp2_with ((go_at_call 115; (with_reducible refine ((k _)).mono ?_); rintro e w9 ⟨rfl, hw9⟩; rw [hw9]; clear hw9 w9))
    go_ret
    exact ⟨by first | rfl | (refine ret_int ?_; simp; try omega), rfl⟩
  · by_cases h2 : b < a
    · go_enter Try.func113, Try.ntmps113
      go_wp2_with ((go_at_call 115; (with_reducible refine ((k _)).mono ?_); rintro e w9 ⟨rfl, hw9⟩; rw [hw9]; clear hw9 w9))
      go_ret
      exact ⟨by first | rfl | (refine ret_int ?_; simp; try omega), rfl⟩
    · have e : a = b := by omega
      subst e
      clear h1 h2
      go_enter Try.func113, Try.ntmps113
      go_wp2_with ((go_at_call 115; (with_reducible refine ((k _)).mono ?_); rintro e w9 ⟨rfl, hw9⟩; rw [hw9]; clear hw9 w9))
      go_ret
      exact ⟨by first | rfl | (refine ret_int ?_; simp; try omega), rfl⟩
def orZ (a b : Int) : Int := if a = 0 then b else a
set_option maxHeartbeats 1000000 in
theorem or_any (g : Nat) (a b : Int) (w : World) (c0 : w.cell? ⟨g, 0, none⟩ = some (.int .i64 a)) (c1 : w.cell? ⟨g, 1, none⟩ = some (.int .i64 b)) :
    Calls Try.prog 111 #[.slice (some ⟨g, 0, none⟩) 2 2] w fun e w' => e = .returned (.int .i64 (orZ a b)) ∧ w' = w := by
  unfold orZ
  by_cases ha : a = 0
  · subst ha
    by_cases hb : b = 0
    · subst hb
      go_enter Try.func111, Try.ntmps111
      go_wp2
      refine wp_loop_rounds 3 ?_
      rw [rounds_succ]
      go_wp2
      all_goals try (rw [rounds_succ]; go_wp2)
      all_goals try (rw [rounds_succ]; go_wp2)
      go_ret
      exact ⟨by simp, rfl⟩
    · have hb' : (b != 0) = true := by simpa using hb
      go_enter Try.func111, Try.ntmps111
      go_wp2
      refine wp_loop_rounds 3 ?_
      rw [rounds_succ]
      go_wp2
      all_goals try (rw [rounds_succ]; go_wp2)
      all_goals try (rw [rounds_succ]; go_wp2)
      go_ret
      exact ⟨by simp, rfl⟩
  · have ha' : (a != 0) = true := by simpa using ha
    have HA := Lib.hid ha
    clear ha
    go_enter Try.func111, Try.ntmps111
    go_wp2
    refine wp_loop_rounds 3 ?_
    rw [rounds_succ]
    go_wp2
    all_goals try (rw [rounds_succ]; go_wp2)
    all_goals try (rw [rounds_succ]; go_wp2)
    go_ret
    exact ⟨by first | rfl | rw [if_neg HA.out], rfl⟩
theorem ret_at {k : IntKind} {v : Value} {b : Int} (h : v = .int k b) : Ending.returned v = .returned (.int k b) := by rw [h]
theorem cmpZ_bd (a b : Int) : -1 ≤ cmpZ a b ∧ cmpZ a b ≤ 1 := by unfold cmpZ; split; omega; split <;> omega
theorem orZ_cmp (k1 s1 k2 s2 : Int) : orZ (cmpZ k1 k2) (cmpZ s1 s2) = cmpE k1 s1 k2 s2 := by
  unfold orZ cmpE
  by_cases h : k1 = k2
  · subst h; simp [cmpZ]
  · rw [if_neg h, if_neg]
    unfold cmpZ; split; omega; split <;> omega
set_option maxHeartbeats 2000000 in
theorem compare_any (k1 s1 k2 s2 : Int) (w : World) : Calls Try.prog 106 #[.agg #[.int .i64 k1, .int .u64 s1], .agg #[.int .i64 k2, .int .u64 s2]] w fun e w' => e = .returned (.int .i64 (cmpE k1 s1 k2 s2)) ∧ Upd [] w w' := by
  rw [← orZ_cmp]
  have ka := fun W => cmpI_any k1 k2 W
  have kb := fun W => cmpU_any s1 s2 W
  generalize cmpZ k1 k2 = za at *
  generalize cmpZ s1 s2 = zb at *
  have r0 : ∀ W, Upd [] ((w.alloc (.cells #[.int .i64 k1, .int .u64 s1] 59)).alloc (.cells #[.int .i64 k2, .int .u64 s2] 59)) W → W.cell? ⟨w.heap.size, 0, none⟩ = some (.int .i64 k1) := fun W h => h.was (by simp)
  have r1 : ∀ W, Upd [] ((w.alloc (.cells #[.int .i64 k1, .int .u64 s1] 59)).alloc (.cells #[.int .i64 k2, .int .u64 s2] 59)) W → W.cell? ⟨w.heap.size, 1, none⟩ = some (.int .u64 s1) := fun W h => h.was (by simp)
  have r2 : ∀ W, Upd [] ((w.alloc (.cells #[.int .i64 k1, .int .u64 s1] 59)).alloc (.cells #[.int .i64 k2, .int .u64 s2] 59)) W → W.cell? ⟨w.heap.size + 1, 0, none⟩ = some (.int .i64 k2) := fun W h => h.was (by simp)
  have r3 : ∀ W, Upd [] ((w.alloc (.cells #[.int .i64 k1, .int .u64 s1] 59)).alloc (.cells #[.int .i64 k2, .int .u64 s2] 59)) W → W.cell? ⟨w.heap.size + 1, 1, none⟩ = some (.int .u64 s2) := fun W h => h.was (by simp)
  go_enter Try.func106, Try.ntmps106
  go_wp2
  go_region_held3 (Upd [] ((w.alloc (.cells #[.int .i64 k1, .int .u64 s1] 59)).alloc (.cells #[.int .i64 k2, .int .u64 s2] 59))) (repeat (first | assumption | exact Upd.refl _ _ | refine Upd.drew ?_ | refine Upd.alloc ?_ _ | (apply Upd.trans; rotate_left; assumption)))
    (first
      | (go_at_call 112; (with_reducible refine (ka _).mono ?_); rintro e w9 ⟨rfl, hw9⟩; rw [hw9]; clear hw9 w9)
      | (go_at_call 113; (with_reducible refine (kb _).mono ?_); rintro e w9 ⟨rfl, hw9⟩; rw [hw9]; clear hw9 w9)
      | (go_at_call 111; (with_reducible refine (or_any _ za zb _ (cell_newd (by simp) 0 rfl) (cell_newd (by simp) 1 rfl)).mono ?_); rintro e w9 ⟨rfl, hw9⟩; rw [hw9]; clear hw9 w9))
  go_wp2
  go_ret
  exact ⟨rfl, by (repeat (first | assumption | exact Upd.refl _ _ | refine Upd.alloc ?_ _ | refine Upd.drew ?_ | refine Upd.drewN ?_ _ | refine Upd.setCell ?_ (Or.inr (by first | (simp; done) | (simp; omega))) _ | (apply Upd.trans; rotate_left; assumption)))⟩
theorem eless_any (k1 s1 k2 s2 : Int) (w : World) : Calls Try.prog 141 #[.agg #[.int .i64 k1, .int .u64 s1], .agg #[.int .i64 k2, .int .u64 s2]] w fun e w' => e = .returned (.bool (lessE k1 s1 k2 s2)) ∧ Upd [] w w' := by
  rw [← cmpE_less]
  have k := fun W => compare_any k1 s1 k2 s2 W
  generalize cmpE k1 s1 k2 s2 = z at *
  go_enter Try.func141, Try.ntmps141
  go_wp2_with (go_at_call 106; (with_reducible refine (k _).mono ?_); rintro e w' ⟨rfl, hu⟩)
  all_goals
    go_ret
    exact ⟨ret_bool (by first | rfl | simp | (simp; omega)), ((Upd.refl _ _).alloc _ |>.alloc _).trans hu⟩
theorem rless_any (k1 s1 k2 s2 : Int) (w : World) : Calls Try.prog 55 #[.agg #[.int .i64 k1, .int .u64 s1], .agg #[.int .i64 k2, .int .u64 s2]] w fun e w' => e = .returned (.bool (lessE k1 s1 k2 s2)) ∧ Upd [] w w' := by
  unfold lessE
  by_cases h : k1 = k2
  · subst h
    rw [if_pos rfl]
    have hb : (k1 != k1) = false := by simp
    go_enter Try.func55, Try.ntmps55
    go_wp2
    all_goals
      go_ret
      exact ⟨by first | rfl | (refine ret_bool ?_; simp; try omega), by (repeat (first | assumption | exact Upd.refl _ _ | refine Upd.alloc ?_ _ | refine Upd.drew ?_ | refine Upd.drewN ?_ _ | refine Upd.setCell ?_ (Or.inr (by first | (simp; done) | (simp; omega))) _ | (apply Upd.trans; rotate_left; assumption)))⟩
  · have hb : (k1 != k2) = true := by simpa using h
    rw [if_neg h]
    go_enter Try.func55, Try.ntmps55
    go_wp2
    all_goals
      go_ret
      exact ⟨by first | rfl | (refine ret_bool ?_; simp; try omega), by (repeat (first | assumption | exact Upd.refl _ _ | refine Upd.alloc ?_ _ | refine Upd.drew ?_ | refine Upd.drewN ?_ _ | refine Upd.setCell ?_ (Or.inr (by first | (simp; done) | (simp; omega))) _ | (apply Upd.trans; rotate_left; assumption)))⟩
end Go.Proofs.Ytechoojcgdjcdaa
