/-
  The edges that are tight, where there are none to be told: package proof. Conditions: those of each lemma.
-/
import Derived.Test.YtaeipfpdimjfoaaPrT
set_option linter.unusedVariables false
set_option linter.unusedSimpArgs false
namespace Go.Proofs.Ytaeipfpdimjfoaa
open Go Go.RowKit

theorem ptight_no (w : World) (N : Int) (va : Value) (E : List Ed) (a2 : Option Addr) (md cap2 : Nat) (hE : SlE w va E) (hwb : ∀ e, e ∈ E → e.w ≤ 9223372036854775807) (hno : weighB N E = false ∨ (md : Int) ≠ N) :
    Calls Try.prog 9 #[.agg #[.int .i64 N, va], .slice a2 md cap2] w fun r w' => r = .returned (.slice none 0 0) ∧ Upd [] w w' := by
  have kw := fun W (hW : Upd [] w W) => gweigh_any W N va E (hE.upd hW) hwb
  obtain ⟨a, cap, rfl, hcap⟩ := hE.shape
  have u0 : Upd [] w (w.alloc (.cells #[.int .i64 N, .slice a E.length cap] 24)) := (Upd.refl _ _).alloc _
  clear hE hwb
  cases hw : weighB N E with
  | false =>
    rw [hw, show errW false = 201 from rfl] at kw
    clear hw hno
    generalize E.length = n at *
    go_enter Try.func9, Try.ntmps9
    go_wp2_with (first
      | ((go_at_call 11; (with_reducible refine (kw _ (by (repeat (first | assumption | exact Upd.refl _ _ | refine Upd.alloc ?_ _ | refine Upd.drew ?_ | refine Upd.drewN ?_ _ | refine Upd.setCell ?_ ?_ _ | focus (left; simp; done) | focus (right; simp; done) | focus (right; simp; omega))))).mono ?_)); rintro e w1 ⟨rfl, hu1⟩)
      | fail)
    go_ret
    exact ⟨rfl, u0.trans hu1⟩
  | true =>
    have hN : (md : Int) ≠ N := by
      rcases hno with h | h
      · rw [hw] at h; cases h
      · exact h
    have hNb : ((md : Int) != N) = true := by simpa using hN
    rw [hw, show errW true = 0 from rfl] at kw
    clear hw hno hN
    generalize E.length = n at *
    go_enter Try.func9, Try.ntmps9
    go_wp2_with (first
      | ((go_at_call 11; (with_reducible refine (kw _ (by (repeat (first | assumption | exact Upd.refl _ _ | refine Upd.alloc ?_ _ | refine Upd.drew ?_ | refine Upd.drewN ?_ _ | refine Upd.setCell ?_ ?_ _ | focus (left; simp; done) | focus (right; simp; done) | focus (right; simp; omega))))).mono ?_)); rintro e w1 ⟨rfl, hu1⟩; (have q0 : w1.cell? ⟨w.heap.size, 0, none⟩ = some (.int .i64 N) := hu1.was (by simp)))
      | fail)
    go_ret
    exact ⟨rfl, u0.trans hu1⟩
end Go.Proofs.Ytaeipfpdimjfoaa
