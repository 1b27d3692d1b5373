/-
  Is a tree right? Package proof. Conditions: those of each lemma.
-/
import Derived.Test.YtaeipfpdimjfoaaPrN
set_option linter.unusedVariables false
set_option linter.unusedSimpArgs false
namespace Go.Proofs.Ytaeipfpdimjfoaa
open Go Go.RowKit

theorem proves_no (w : World) (N : Int) (va vd vb : Value) (E : List Ed) (D B : List Int) (src : Int) (hE : SlE w va E) (hwb : ∀ e, e ∈ E → e.w ≤ 9223372036854775807) (hD : SlI w [] vd D) (hB : SlI w [] vb B)
    (h : weighB N E = false ∨ src < 0 ∨ N ≤ src ∨ (D.length : Int) ≠ N ∨ (B.length : Int) ≠ N) :
    Calls Try.prog 6 #[.agg #[.int .i64 N, va], .int .i64 src, .agg #[vd, vb]] w fun r w' => r = .returned (.bool false) ∧ Upd [] w w' := by
  have kw := fun W (hW : Upd [] w W) => gweigh_any W N va E (hE.upd hW) hwb
  obtain ⟨a, cap, rfl, hcap⟩ := hE.shape
  obtain ⟨ad, capd, rfl, _, _, _⟩ := hD
  obtain ⟨ab, capb, rfl, _, _, _⟩ := hB
  have u0 : Upd [] w ((w.alloc (.cells #[.int .i64 N, .slice a E.length cap] 24)).alloc (.cells #[.slice ad D.length capd, .slice ab B.length capb] 28)) := ((Upd.refl _ _).alloc _).alloc _
  clear hE
  cases hw : weighB N E with
  | false =>
    rw [hw, show errW false = 201 from rfl] at kw
    clear hw h hwb
    generalize E.length = n at *
    generalize D.length = n2 at *
    generalize B.length = n3 at *
    go_enter Try.func6, Try.ntmps6
    go_wp2_with (first | ((go_at_call 11; (with_reducible refine (kw _ u0).mono ?_)); rintro e w1 ⟨rfl, hu1⟩; (have q0 : w1.cell? ⟨w.heap.size, 0, none⟩ = some (.int .i64 N) := hu1.was (by simp)); (have q1 : w1.cell? ⟨w.heap.size, 1, none⟩ = some (.slice a n cap) := hu1.was (by simp)); (have q2 : w1.cell? ⟨w.heap.size + 1, 0, none⟩ = some (.slice ad n2 capd) := hu1.was (by simp)); (have q3 : w1.cell? ⟨w.heap.size + 1, 1, none⟩ = some (.slice ab n3 capb) := hu1.was (by simp))) | fail)
    go_ret
    exact ⟨rfl, u0.trans hu1⟩
  | true =>
    rw [hw, show errW true = 0 from rfl] at kw
    have h' : src < 0 ∨ N ≤ src ∨ (D.length : Int) ≠ N ∨ (B.length : Int) ≠ N := by
      rcases h with h | h
      · rw [hw] at h; cases h
      · exact h
    clear hw h hwb
    generalize E.length = n at *
    generalize D.length = n2 at *
    generalize B.length = n3 at *
    by_cases h1 : src < 0
    · go_enter Try.func6, Try.ntmps6
      go_wp2_with (first | ((go_at_call 11; (with_reducible refine (kw _ u0).mono ?_)); rintro e w1 ⟨rfl, hu1⟩; (have q0 : w1.cell? ⟨w.heap.size, 0, none⟩ = some (.int .i64 N) := hu1.was (by simp)); (have q1 : w1.cell? ⟨w.heap.size, 1, none⟩ = some (.slice a n cap) := hu1.was (by simp)); (have q2 : w1.cell? ⟨w.heap.size + 1, 0, none⟩ = some (.slice ad n2 capd) := hu1.was (by simp)); (have q3 : w1.cell? ⟨w.heap.size + 1, 1, none⟩ = some (.slice ab n3 capb) := hu1.was (by simp))) | fail)
      go_ret
      exact ⟨rfl, u0.trans hu1⟩
    · by_cases h2 : src ≥ N
      · go_enter Try.func6, Try.ntmps6
        go_wp2_with (first | ((go_at_call 11; (with_reducible refine (kw _ u0).mono ?_)); rintro e w1 ⟨rfl, hu1⟩; (have q0 : w1.cell? ⟨w.heap.size, 0, none⟩ = some (.int .i64 N) := hu1.was (by simp)); (have q1 : w1.cell? ⟨w.heap.size, 1, none⟩ = some (.slice a n cap) := hu1.was (by simp)); (have q2 : w1.cell? ⟨w.heap.size + 1, 0, none⟩ = some (.slice ad n2 capd) := hu1.was (by simp)); (have q3 : w1.cell? ⟨w.heap.size + 1, 1, none⟩ = some (.slice ab n3 capb) := hu1.was (by simp))) | fail)
        go_ret
        exact ⟨rfl, u0.trans hu1⟩
      · by_cases h3 : (n2 : Int) = N
        · have h3b : ((n2 : Int) != N) = false := by simpa using h3
          have h4b : ((n3 : Int) != N) = true := by simp; omega
          clear h' h3
          go_enter Try.func6, Try.ntmps6
          go_wp2_with (first | ((go_at_call 11; (with_reducible refine (kw _ u0).mono ?_)); rintro e w1 ⟨rfl, hu1⟩; (have q0 : w1.cell? ⟨w.heap.size, 0, none⟩ = some (.int .i64 N) := hu1.was (by simp)); (have q1 : w1.cell? ⟨w.heap.size, 1, none⟩ = some (.slice a n cap) := hu1.was (by simp)); (have q2 : w1.cell? ⟨w.heap.size + 1, 0, none⟩ = some (.slice ad n2 capd) := hu1.was (by simp)); (have q3 : w1.cell? ⟨w.heap.size + 1, 1, none⟩ = some (.slice ab n3 capb) := hu1.was (by simp))) | fail)
          go_ret
          exact ⟨rfl, u0.trans hu1⟩
        · have h3b : ((n2 : Int) != N) = true := by simpa using h3
          clear h' h3
          go_enter Try.func6, Try.ntmps6
          go_wp2_with (first | ((go_at_call 11; (with_reducible refine (kw _ u0).mono ?_)); rintro e w1 ⟨rfl, hu1⟩; (have q0 : w1.cell? ⟨w.heap.size, 0, none⟩ = some (.int .i64 N) := hu1.was (by simp)); (have q1 : w1.cell? ⟨w.heap.size, 1, none⟩ = some (.slice a n cap) := hu1.was (by simp)); (have q2 : w1.cell? ⟨w.heap.size + 1, 0, none⟩ = some (.slice ad n2 capd) := hu1.was (by simp)); (have q3 : w1.cell? ⟨w.heap.size + 1, 1, none⟩ = some (.slice ab n3 capb) := hu1.was (by simp))) | fail)
          go_ret
          exact ⟨rfl, u0.trans hu1⟩
end Go.Proofs.Ytaeipfpdimjfoaa
